/- Parts of the proof: what the functions and the plain laws give that later parts lean on. Conditions: none beyond those that each theorem names. -/
import Derived.Test.YtpagmlndgblhhaaGreatDoorW18
set_option maxRecDepth 100000
set_option maxHeartbeats 8000000
namespace Go.Proofs.YtpagmlndgblhhaaGreatDoor
open Go.RowKit Go.Own Go.Own.MapTy Go.Va Go.Sort
open Go.Own.Cells (sz enc)
set_option linter.unusedVariables false
set_option linter.unusedSimpArgs false
theorem yfc (id t k a b:Int)(nm tx:ByteArray)(vk vn:Int)(vs:ByteArray)(la:Option Addr)(ln lc:Nat)(W:World)(bb:Int)(hb:(if k=21 then 0 else b)=bb):
  Calls Tryz.prog 118 #[.agg #[id,t,k,a,b,nm,tx,vk,vn,vs,.slice la ln lc]] W (fun e w'=>e= .returned (.agg #[.int .i64 0,t,k,a,bb,nm,tx,vk,vn,vs,.slice la ln lc])/\Below W W w'):=by
 obtain⟨w0,C⟩:∃w0,w0=(W.alloc (.cells #[id,t,k,a,b,nm,tx,vk,vn,vs,.slice la ln lc] 40)).alloc (.cells #[.int .i64 0,.int .i64 0,.int .i64 0,.int .i64 0,.int .i64 0,.string ⟨#[]⟩,.string ⟨#[]⟩,.int .i64 0,.int .i64 0,.string ⟨#[]⟩,.slice none 0 0] 40):=⟨_,rfl⟩;have s:w0.heap[W.heap.size]? =some (.cells #[id,t,k,a,b,nm,tx,vk,vn,vs,.slice la ln lc] 40 (0,0)):=by rw[C];exact yaD
 have r:w0.heap[W.heap.size+1]? =some (.cells #[.int .i64 0,.int .i64 0,.int .i64 0,.int .i64 0,.int .i64 0,.string ⟨#[]⟩,.string ⟨#[]⟩,.int .i64 0,.int .i64 0,.string ⟨#[]⟩,.slice none 0 0] 40 (0,0)):=by rw[C];exact yat
 have x:Below W W w0:=by rw[C];exact(zal).alloc (by simp) _
 obtain⟨m,l,i,g,f,d,c,Z,Y,X,E,U,V⟩:=yaW s;obtain⟨R,Q,P,O,N,M,L,K,J,I,z10,G,H⟩:=yaW r;have S:=zh3 s r x;clear s r x;by_cases h21:k=21
 .subst h21
  rw[if_pos rfl]at hb;subst hb;go_in;go_upto_region 1 with(fail);rw[<-C];clear C;go_upto_region 4 with(fail);refine yab ?_;intro w2 A;have F:w2.heap[W.heap.size]? =some (.cells #[.int .i64 0,t,.int .i64 21,a,.int .i64 0,nm,tx,vk,vn,vs,.slice la ln lc] 40 (0,0)):=by
   rw[A];have:=S.o.1;simp[World.setCell,zni,this]
  have D:w2.heap[W.heap.size+1]? =some (.cells #[.int .i64 0,.int .i64 0,.int .i64 0,.int .i64 0,.int .i64 0,.string ⟨#[]⟩,.string ⟨#[]⟩,.int .i64 0,.int .i64 0,.string ⟨#[]⟩,.slice none 0 0] 40 (0,0)):=by
   rw[A];have:=S.o.2.1;simp[World.setCell,zni,this]
  have p:Keeps (fun j=>j=W) w0 w2:=by
   rw[A]
   repeat(first|with_reducible exact Keeps.refl _ _|(refine Keeps.setCell ?_ (Or.inl ?h) _;case h=>rfl))
  clear m l i g f d c Z Y X E U V R Q P O N M L K J I z10 G H A;obtain⟨m,l,i,g,f,d,c,Z,Y,X,E,U,V⟩:=yaW F;obtain⟨R,Q,P,O,N,M,L,K,J,I,z10,G,H⟩:=yaW D;have q:=zh2 p D;clear F D p;go_wp2_with fail;refine ybv ?_;intro w3 B;have T:w3.heap[W.heap.size+1]? =some (.cells #[.int .i64 0,t,.int .i64 21,a,.int .i64 0,nm,tx,vk,vn,vs,.slice la ln lc] 40 (0,0)):=by
   rw[B];have:=q.o.2;simp[World.setCell,zni,this]
  have u:Keeps (fun j=>j=W+1) w2 w3:=by
   rw[B]
   repeat(first|with_reducible exact Keeps.refl _ _|(refine Keeps.setCell ?_ (Or.inl ?h) _;case h=>rfl))
  clear B m l i g f d c Z Y X E U V R Q P O N M L K J I z10 G H;obtain⟨R,Q,P,O,N,M,L,K,J,I,z10,G,H⟩:=yaW T;have n:=S.o.2.2.trans (q.o.1.below S.o.2.2.size (fun j hj e=>by have e:j=W:=e;omega));exact zng (v:=.agg #[.int .i64 0,t,.int .i64 21,a,.int .i64 0,nm,tx,vk,vn,vs,.slice la ln lc]) (by simp only[results,Tryz.results118];go_simp) rfl ⟨rfl,n.trans (u.below n.size (fun j hj e=>by have e:j=W+1:=e;omega))⟩
 .have y:(k==21)=false:=by rw[zna];exact h21
  rw[if_neg h21]at hb;subst hb;clear h21;go_in;go_upto_region 1 with(fail);rw[<-C];clear C;go_upto_region 4 with(fail);refine yab ?_;intro w2 A;have F:w2.heap[W.heap.size]? =some (.cells #[.int .i64 0,t,k,a,b,nm,tx,vk,vn,vs,.slice la ln lc] 40 (0,0)):=by
   rw[A];have:=S.o.1;simp[World.setCell,zni,this]
  have D:w2.heap[W.heap.size+1]? =some (.cells #[.int .i64 0,.int .i64 0,.int .i64 0,.int .i64 0,.int .i64 0,.string ⟨#[]⟩,.string ⟨#[]⟩,.int .i64 0,.int .i64 0,.string ⟨#[]⟩,.slice none 0 0] 40 (0,0)):=by
   rw[A];have:=S.o.2.1;simp[World.setCell,zni,this]
  have p:Keeps (fun j=>j=W) w0 w2:=by
   rw[A]
   repeat(first|with_reducible exact Keeps.refl _ _|(refine Keeps.setCell ?_ (Or.inl ?h) _;case h=>rfl))
  clear m l i g f d c Z Y X E U V R Q P O N M L K J I z10 G H A;obtain⟨m,l,i,g,f,d,c,Z,Y,X,E,U,V⟩:=yaW F;obtain⟨R,Q,P,O,N,M,L,K,J,I,z10,G,H⟩:=yaW D;have q:=zh2 p D;clear F D p;go_wp2_with fail;refine ybv ?_;intro w3 B;have T:w3.heap[W.heap.size+1]? =some (.cells #[.int .i64 0,t,k,a,b,nm,tx,vk,vn,vs,.slice la ln lc] 40 (0,0)):=by
   rw[B];have:=q.o.2;simp[World.setCell,zni,this]
  have u:Keeps (fun j=>j=W+1) w2 w3:=by
   rw[B]
   repeat(first|with_reducible exact Keeps.refl _ _|(refine Keeps.setCell ?_ (Or.inl ?h) _;case h=>rfl))
  clear B m l i g f d c Z Y X E U V R Q P O N M L K J I z10 G H;obtain⟨R,Q,P,O,N,M,L,K,J,I,z10,G,H⟩:=yaW T;have n:=S.o.2.2.trans (q.o.1.below S.o.2.2.size (fun j hj e=>by have e:j=W:=e;omega));exact zng (v:=.agg #[.int .i64 0,t,k,a,b,nm,tx,vk,vn,vs,.slice la ln lc]) (by simp only[results,Tryz.results118];go_simp) rfl ⟨rfl,n.trans (u.below n.size (fun j hj e=>by have e:j=W+1:=e;omega))⟩
end Go.Proofs.YtpagmlndgblhhaaGreatDoor
namespace Go.Va
open Go.Own Go.RowKit
open Go.Proofs.YtpagmlndgblhhaaGreatDoor
def ye9 (e:Ev):Ev:={e with id:=0,b:=if e.kind=21 then 0 else e.b}
theorem yog (e f:Ev):yiY (ye9 e) (ye9 f)=true↔yap e=yap f:=by
 constructor
 .intro h
  unfold yiY ye9 at h;simp only[Bool.and_eq_true,beq_iff_eq,decide_eq_true_eq]at h;obtain⟨_,N,M,L,K,J,I,H⟩:=h;unfold yap;rw[N,L,K,J,I,(ydc _ _).1 H,M]
 .intro h
  have G:e.time=f.time:=(congrArg Ev.time h:(yap e).time=(yap f).time);have F:e.kind=f.kind:=(congrArg Ev.kind h:(yap e).kind=(yap f).kind);have E:e.a=f.a:=(congrArg Ev.a h:(yap e).a=(yap f).a);have D:(if e.kind=21 then 0 else e.b)=(if f.kind=21 then 0 else f.b):=congrArg Ev.b h;have C:e.name=f.name:=(congrArg Ev.name h:(yap e).name=(yap f).name);have B:e.text=f.text:=(congrArg Ev.text h:(yap e).text=(yap f).text);have A:yaa e.v=yaa f.v:=(congrArg Ev.v h:(yap e).v=(yap f).v);unfold yiY ye9;simp only[Bool.and_eq_true,beq_iff_eq,decide_eq_true_eq];exact⟨trivial,G,F,E,D,C,B,(ydc _ _).2 A⟩
theorem ynS {x y:List Ev}(h:∃k,y.map yap=x.map yap++k):x.length<=y.length:=by
 obtain⟨k,h⟩:=h;have:=congrArg List.length h;rw[zmd,znk,zmd]at this;omega
theorem yoT {x y:List Ev}{j:Nat}{e f:Ev}(he:x[j]? =some e)(hf:y[j]? =some f)(h:∃k,y.map yap=x.map yap++k):yap e=yap f:=by
 obtain⟨k,h⟩:=h;have A:=congrArg (fun q=>q[j]?) h;simp only[List.getElem?_map,hf]at A;rw[List.getElem?_append_left (by rw[zmd];exact(zge he).1),List.getElem?_map,he]at A;exact(Option.some.inj A).symm
theorem ynT {x y:List Ev}(h:x.map yap=(y.take x.length).map yap):∃k,y.map yap=x.map yap++k:=⟨(y.drop x.length).map yap,by rw[h,<-List.map_append,List.take_append_drop]⟩
end Go.Va
namespace Go.Proofs.YtpagmlndgblhhaaGreatDoor
open Go.RowKit Go.Own Go.Own.MapTy Go.Va Go.Sort
open Go.Own.Cells (sz enc)
def yqb (W:World)(n:Nat)(x y:List Ev)(gk:Nat)(v13:Value)(wr:World):Prop:=
 ∃j:Nat,v13= .int .i64 j/\j<=n/\gk=n - j/\(x.take j).map yap=(y.take j).map yap/\Below W W wr
theorem ybP (W:World)(xa:Option Addr)(xn xc:Nat)(x:List Ev)(E:XRd (fun q=>q<W) W (.slice xa xn xc) x)(ya:Option Addr)(yn yc:Nat)(y:List Ev)(E':XRd (fun q=>q<W) W (.slice ya yn yc) y)(hl:x.length<=4000000)(r:Bool)(hr:r=true↔∃k,y.map yap=x.map yap++k):
  Calls Tryz.prog 84 #[.slice xa xn xc,.slice ya yn yc] W (fun e w'=>e= .returned (.bool r)/\Below W W w'):=by
 have L:x.length=xn:=by obtain⟨_,_,h⟩:=E.slice;cases h;rfl
 have K:y.length=yn:=by obtain⟨_,_,h⟩:=E'.slice;cases h;rfl
 have A:=zh6 E E' hl hr L K;clear E E' hl hr L K;by_cases hn:yn<xn
 .have d1:decide ((yn:Int)<(xn:Int))=true:=zno (by omega)
  have d2:(yn:Int)<(xn:Int):=by omega
  have R:=zhd (show r=false by
   cases hq:r with
   |false=>rfl
   |true=>have:=ynS (A.o.2.2.2.1.1 hq);have:=A.o.2.2.2.2;omega)
  go_in;go_wp2;go_ret;exact⟨by rw[R.o];rfl,znv _ _⟩
 .have d1:decide ((yn:Int)<(xn:Int))=false:=znd (by omega)
  have d2:¬(yn:Int)<(xn:Int):=by omega
  go_in;go_wp2_with fail;go_loopg [13] xn (fun gk v13 wr=>yqb W xn x y gk v13 wr)
  case atStart=>exact⟨0,rfl,znq _,rfl,rfl,znv _ _⟩
  case round=>
   obtain⟨j,rfl,hj,M,D,I⟩:=hrel;by_cases hjn:j<xn
   .obtain⟨e,t⟩:=yae (l:=x) (k:=j) (by rw[A.o.2.2.2.2.1];exact hjn)
    obtain⟨f,n⟩:=yae (l:=y) (k:=j) (by rw[A.o.2.2.2.2.2];omega);obtain⟨g,Ap,vk,vn,vs,la,ln,lc,rfl,_,hg,dv,y0,y1,y2,y3,y4,y5,y6,y7,y8,y9,y10⟩:=yc8 (A.o.1.below I) t;obtain⟨g',Ac,uk,un,us,ua,ul,uc,rfl,_,N,du,i,d,c,a,Z,Y,V,t7,t8,t9,J⟩:=yc8 (A.o.2.1.below I) n;have Ad:(j:Int)<xn:=by omega
    have Ar:(j:Int)<yn:=by omega
    have Q:=zhd (show wrap64 ((j:Int)+1)=(j:Int)+1 by have:=A.o.2.2.1;have:=A.o.2.2.2.2.1;unfold wrap64;omega);have HM:=zhd (show xn - (j+1)<gk by omega);obtain⟨s,m⟩:∃s,yiY (ye9 e) (ye9 f)=s:=⟨_,rfl⟩;have F:=zh5 m t n D I;clear M D I hj d1 d2;obtain⟨e0,e1,e2,e3,e4,e5,e6,ex⟩:=e;obtain⟨f0,f1,f2,f3,f4,f5,f6,fx⟩:=f;dsimp only at y0 y1 y2 y3 y4 y5 y6 i d c a Z Y V dv du;obtain⟨be,H⟩:∃b,(if e2=21 then(0:Int)else e4)=b:=⟨_,rfl⟩;obtain⟨bf,G⟩:∃b,(if f2=21 then(0:Int)else f4)=b:=⟨_,rfl⟩;have PA:=zhd (fun X=>yfc e0 e1 e2 e3 e4 e5 e6 vk vn vs la ln lc X be H);have PB:=zhd (fun X=>yfc f0 f1 f2 f3 f4 f5 f6 uk un us ua ul uc X bf G);have SA:=zhd (fun X (B:Below wr wr X)=>ykN 0 e1 e2 e3 be e5 e6 vk vn vs la ln lc 0 f1 f2 f3 bf f5 f6 uk un us ua ul uc ex fx _ _ X (dv.keep (S:=fun _=>False) (zkb B) (fun _ _ f=>f)) (du.keep (S:=fun _=>False) (zkb B) (fun _ _ f=>f)) s (by rw[<-H,<-G];exact m));have hD:Below wr wr wr.drew:=(znv _ _).drew;clear m t n dv du H G;go_upto_region 6 with(fail);go_cut [27] (fun v27 wx=>v27= .bool (!s)/\Below wr wr wx)
    case first=>
     go_region_law (first
      |(go_simp;go_at_call 117;refine(SA.o _ H8.o).mono ?_;rintro e w9 ⟨rfl,v⟩;have H9:=zhd (H8.o.trans (v.mono H8.o.size)))
      |(go_simp;go_at_call 118;refine(PB.o _).mono ?_;rintro e w8 ⟨rfl,Aa⟩;have H8:=zhd (U.o.trans (Aa.mono U.o.size)))
      |(go_simp;go_at_call 118;refine(PA.o _).mono ?_;rintro e w7 ⟨rfl,P⟩;have U:=zhd (show Below wr wr w7 from by first|exact P|exact hD.trans P);have C:=zhd (fun o u (h:wr.cell? ⟨g',o,none⟩=some u)=>(U.o.cell (p:=⟨g',o,none⟩) N).trans h);have Ao:=C.o _ _ i;have An:=C.o _ _ d;have Am:=C.o _ _ c;have Al:=C.o _ _ a;have Ak:=C.o _ _ Z;have Aj:=C.o _ _ Y;have Ai:=C.o _ _ V;have Ah:=C.o _ _ t7;have Ag:=C.o _ _ t8;have Af:=C.o _ _ t9;have Ab:=C.o _ _ J;have Ae:=znj N U.o.size))
     all_goals
      go_wp2_with fail;go_meet
      case rel=>exact⟨rfl,H9.o⟩
    case rest=>
     obtain⟨rfl,O⟩:=hcut;have T:=zhd (F.o.2.2.2.2.trans (O.mono F.o.2.2.2.2.size));clear O PA PB SA y0 y1 y2 y3 y4 y5 y6 y7 y8 y9 y10 i d c a Z Y V t7 t8 t9 J;cases s with
     |false=>
      have R:=zhd (show r=false by
       cases hq:r with
       |false=>rfl
       |true=>
        have h1:=(yog _ _).2 (yoT F.o.2.1 F.o.2.2.1 (A.o.2.2.2.1.1 hq));rw[F.o.1]at h1;cases h1)
      go_wp2;go_ret;exact⟨by rw[R.o];rfl,T.o⟩
     |true=>
      have Aq:=Q.o;go_wp2_with fail;go_roundg (xn - (j+1))
      case measure=>exact HM.o
      case rel=>
       refine⟨j+1,by first|(simp;done)|(simp;exact Q.o),hjn,rfl,?_,T.o⟩;rw[List.take_add_one,List.take_add_one,F.o.2.1,F.o.2.2.1,List.map_append,List.map_append,F.o.2.2.2.1];exact congrArg (fun z=>(y.take j).map yap++[z]) ((yog _ _).1 F.o.1)
   .obtain rfl:j=xn:=by omega
    have As:¬(j:Int)<j:=by omega
    have R:=zhd (show r=true from A.o.2.2.2.1.2 (ynT (by
     rw[zmj (by have:=A.o.2.2.2.2.1;omega)]at D;rw[A.o.2.2.2.2.1];exact D)))
    have HT:=zhd I;clear M D I hj d1 d2;go_wp2;go_ret;exact⟨by rw[R.o];rfl,HT.o⟩
end Go.Proofs.YtpagmlndgblhhaaGreatDoor
namespace Go.Va
open Go.Own Go.RowKit
open Go.Proofs.YtpagmlndgblhhaaGreatDoor
def ydT (k:Int):Bool:=decide (k=2\/k=3\/k=5\/k=6)
theorem yer:∀(l:List Ev) (n:Nat) (e:Ev),yaP n (l++[e])=yaP n l++[{e with id:=((n+l.length:Nat):Int)+1,v:=yaa e.v}]
 |[],n,e=>rfl
 |x::l,n,e=>by
  rw[List.cons_append,yaP,yaP,yer l,List.cons_append,List.length_cons,show n+1+l.length=n+(l.length+1) by omega]
end Go.Va
namespace Go.Proofs.YtpagmlndgblhhaaGreatDoor
open Go.RowKit Go.Own Go.Own.MapTy Go.Va Go.Sort
open Go.Own.Cells (sz enc)
set_option linter.unusedVariables false
set_option linter.unusedSimpArgs false
theorem ymT (id t k a b:Int)(nm tx:ByteArray)(vk vn:Int)(vs:ByteArray)(la:Option Addr)(ln lc:Nat)(W:World)(hk:ydT k=false):
  Calls Tryz.prog 116 #[.agg #[id,t,k,a,b,nm,tx,vk,vn,vs,.slice la ln lc]] W (fun e w'=>e= .returned (.bool false)/\Below W W w'):=by
 have hk:¬(k=2\/k=3\/k=5\/k=6):=zny hk;have D:(k==2)=false:=by rw[zna];omega
 have C:(k==3)=false:=by rw[zna];omega
 have B:(k==5)=false:=by rw[zna];omega
 have A:(k==6)=false:=by rw[zna];omega
 clear hk;go_in;go_wp2;go_ret;exact⟨rfl,zal⟩
theorem ykP {F:Nat->Prop}(W:World)(ea:Option Addr)(en ec:Nat)(l:List Ev)(E:XRd F W (.slice ea en ec) l)(hz:∀e∈l,szV e.v<=1073741824)(hl:l.length<=4000000)(hk:∀e∈l,ydT e.kind=false):
  Calls Tryz.prog 83 #[.slice ea en ec] W (ylh W (yaP 0 l)):=by
 have Af:l.length=en:=by obtain⟨a,c,h⟩:=E.slice;cases h;rfl
 have C:=zh5 E hz hl Af hk;clear E hz hl Af hk;go_in;go_wp2_with fail;go_loopg [8,3] en (fun gk v8 v3 wr=>EsRel W en (fun i=>yaP 0 (l.take i)) gk v8 v3 wr)
 case atStart=>exact⟨0,rfl,znq _,rfl,XRow.nil _ _ _,(fun g h=>by cases h),znv _ _⟩
 case round=>
  obtain⟨i,rfl,hi,Ae,K,hO,hB⟩:=hrel;by_cases hin:i<en
  .obtain⟨e,he⟩:=yae (l:=l) (k:=i) (by rw[C.o.2.2.2.1];exact hin)
   obtain⟨g,Aq,vk,vn,vs,la,ln,lc,rfl,An,A,dv,y0,y1,y2,y3,y4,y5,y6,y7,y8,y9,y10⟩:=yc8 C.o.1 he;rw[<-hB.cell (p:=⟨g,_,none⟩) A]at y0 y1 y2 y3 y4 y5 y6 y7 y8 y9 y10;have Am:g<wr:=znj A hB.size;have Ap:(i:Int)<(en:Int):=by omega
   have L:wrap64 ((i:Int)+1)=(i:Int)+1:=by have:=C.o.2.2.1;have:=C.o.2.2.2.1;unfold wrap64;omega
   have P:(l.take i).length=i:=by rw[List.length_take];have:=C.o.2.2.2.1;omega
   have Ac:yaP 0 (l.take (i+1))=yaP 0 (l.take i)++[{e with id:=(i:Int)+1,v:=yaa e.v}]:=by
    rw[List.take_add_one,he];show yaP 0 (l.take i++[e])=_;rw[yer,P,Nat.zero_add]
   obtain⟨va,vl,vc,Ak⟩:=yaL K;subst Ak;obtain rfl:vl=i:=by
    obtain⟨_,_,h⟩:=K.slice;cases h;rw[yes,P]
   have Aa:=C.o.2.1 e (zmg he);have O:=C.o.2.2.2.2 e (zmg he);have HM:=zhd (show en - (vl+1)<gk by omega);have B:=zh6 K hO hB dv Ac Aa;have Ai:=zhd L;clear K hO hB dv Ac Aa he An Ae hi P;obtain⟨e0,e1,e2,e3,e4,e5,e6,ex⟩:=e;dsimp only at y0 y1 y2 y3 y4 y5 y6 O;go_upto_region 5 with(fail);refine yab ?_;intro w2 N;have B2:=zba N;have X:=zha N;clear y0 y1 y2 y3 y4 y5 y6 y7 y8 y9 y10 Am A N;obtain⟨x0,x1,z,y,u,t,s,r,q,n,x10,J,_⟩:=yaW X;have TK:=zhd (ymT e0 e1 e2 e3 e4 e5 e6 vk vn vs la ln lc w2 O);have H2:=zh2 B2 X;clear B2 X O;go_wp2_with fail;refine TK.o.mono ?_;rintro e w3 ⟨rfl,Z⟩;have V:=(Z.block wr J).trans H2.o.2;have m:Below wr wr w3:=H2.o.1.trans (Z.mono H2.o.1.size);clear x0 x1 z y u t s r q n x10 J TK;obtain⟨x0,x1,z,y,u,t,s,r,q,n,x10,J,xf⟩:=yaW V;have CL:=zhd (yay ex vk vn vs la ln lc _ w3 (B.o.2.2.2.1.keep (S:=fun _=>False) (zkb (B.o.2.2.1.trans (m.mono B.o.2.2.1.size))) (fun _ _ f=>f)) B.o.2.2.2.2.2);have H3:=zh2 m V;clear V m Z;go_wp2_with fail;refine CL.o.mono ?_;rintro e w4 ⟨⟨k8,n8,s8,I,D,H⟩,rfl,H4⟩
   have U:=(H4.o.2.block wr J).trans H3.o.2;clear x0 x1 z y u t s r q n x10 J xf CL;obtain⟨x0,x1,z,y,u,t,s,r,q,n,x10,J,xf⟩:=yaW U;have Ao:=zhd U;clear U;go_upto_region 7 with(fail);refine yab ?_;intro w5 M;have Ag:w5.heap[wr.heap.size]? =some (.cells #[.int .i64 ((vl:Int)+1),e1,e2,e3,e4,e5,e6,k8,n8,s8,.slice I D H] 40 (0,0)):=by
    rw[M];have:=Ao.o;simp[World.setCell,zni,this]
   have K5:Keeps (fun j=>j=wr) w4 w5:=by
    rw[M]
    repeat(first|with_reducible exact Keeps.refl _ _|(refine Keeps.setCell ?_ (Or.inl ?h) _;case h=>rfl))
   clear x0 x1 z y u t s r q n x10 J xf M;obtain⟨x0,x1,z,y,u,t,s,r,q,n,x10,J,_⟩:=yaW Ag;have d:Below wr wr w4:=H3.o.1.trans (H4.o.2.mono H3.o.1.size);have b:Below wr wr w5:=d.trans (K5.below d.size (fun jz hj e=>Nat.ne_of_lt hj e));have Ab:=B.o.2.2.1.size;have Al:=H3.o.1.size;have C5:CF (fun g=>wr<=g) w5 ⟨k8,n8,s8,I,D,H⟩ (yaa ex):=((H4.o.1.mono (G:=fun g=>wr<=g/\g≠wr) (fun g A _=>by have A:w3<=g:=A;have:=zlt H3.o.2;omega)).keep K5 (fun g A e=>A.2 e)).mono (fun g A _=>A.1);obtain⟨ks,Y,Ah⟩:=(B.o.1.below b).cells;have R:ks.length=vl:=by obtain⟨_,_,h⟩:=Y.slice;cases h;rfl
   have RA:=zhd (Y.below ((znv w5.heap.size w5).alloc (znc _) (.cells #[.int .i64 ((vl:Int)+1),e1,e2,e3,e4,e5,e6,k8,n8,s8,.slice I D H] 40)));have Aj:=zhd (show(ks.length+1)*128<=140737488355328/\ks.length+1<=maxLen from by have:=C.o.2.2.1;have:=C.o.2.2.2.1;rw[R];unfold maxLen;omega);have H5:=zh4 Ah b C5 R;clear Ag K5 d b Ab Al C5 Y Ah R L;have L:=Ai.o;go_wp2_with (at_builtin;refine ybk (α:=EC) yfP rfl (.tmp 22) (.tmp 24) rfl RA.o (⟨(vl:Int)+1,e1,e2,e3,e4,e5,e6,⟨k8,n8,s8,I,D,H⟩⟩:EC) rfl rfl (znb _ _) Aj.o.1 Aj.o.2 ?_;intro a1 c1 w6 Q Ad T;rw[H5.o.2.2.2]at Q T|-;have HF:=zh3 Q Ad T;clear Q Ad T);go_roundg (en - (vl+1))
   case measure=>exact HM.o
   case rel=>
    have Ab:=B.o.2.2.1.size;have AP:=EsRel.app (x:=⟨(vl:Int)+1,e1,e2,e3,e4,e5,e6,yaa ex⟩) B.o.1 B.o.2.1 B.o.2.2.1 H5.o.2.1 H5.o.1 ⟨rfl,rfl,rfl,rfl,rfl,rfl,rfl,H5.o.2.2.1.mono (fun g A _=>⟨(by have A:wr<=g:=A;show W<=g;omega),fun e=>by have:=B.o.1.lt e;have A:wr<=g:=A;omega⟩)⟩ HF.o.1 HF.o.2.1 HF.o.2.2;exact⟨vl+1,by first|(simp;done)|(simp;exact Ai.o),hin,rfl,by dsimp only;rw[B.o.2.2.2.2.1];exact AP.1,AP.2.1,AP.2.2⟩
  .obtain rfl:i=en:=by omega
   have Ar:¬(i:Int)<i:=by omega
   have hT:l.take i=l:=zmj (by rw[C.o.2.2.2.1];exact znc _);dsimp only at K;rw[hT]at K;have B:=zh3 K hO hB;clear K hO hB Ae hT hi;go_wp2;go_ret;exact⟨_,rfl,zhd B.o⟩
end Go.Proofs.YtpagmlndgblhhaaGreatDoor
namespace Go.Va
open Go.Own Go.Own.MapTy Go.RowKit
def mOf:List Int->List (Int×Bool)
 |[]=>[]
 |c::r=>upd (mOf r) c true
theorem ykG:∀(cs:List Int) (x:Int),get (mOf cs) x=if x∈cs then some true else none
 |[],x=>rfl
 |c::r,x=>by
  rw[mOf,ynB,ykG r];by_cases h:x=c
  .rw[if_pos h,if_pos (by rw[h];exact zmf ..)]
  .rw[if_neg h]
   by_cases h2:x∈r
   .rw[if_pos h2,if_pos (zme _ h2)]
   .rw[if_neg h2,if_neg (fun e=>(List.mem_cons.1 e).elim h h2)]
end Go.Va
namespace Go.Proofs.YtpagmlndgblhhaaGreatDoor
open Go.RowKit Go.Own Go.Own.MapTy Go.Va Go.Sort
open Go.Own.Cells (sz enc)
abbrev NM:MapTy Int Bool:=IM Bool Value.bool
theorem yoO (n:Nat)(em:Bool)(W:World)(x:Int):(Instr.checkKey em (n+1) 2 (.int .i64 x)).run Tryz.prog W= .ok () W:=by simp[Instr.checkKey,go_sem]
theorem ylT:KLaw NM Tryz.prog 2:=IM.klaw Tryz.underlying2 (fun W em x=>yoO 9999 em W x)
theorem yhu {w:World}{b:Nat}{cs:List Int}(h:MapAt NM w b (mOf cs))(r:Int)(c:Bool)(hc:decide (r∈cs)=c)(W:World)(hW:ycU w b W):(Instr.lookup 57 (.map (some b)) (.int .i64 r) false).run Tryz.prog W= .ok (.bool c) W:=by
 have:=h.lookS ylT Tryz.underlying57 (z:=.bool false) (fun W=>by kernel_rfl) r false W hW;subst hc;rw[ykG]at this;by_cases hr:r∈cs
 .rw[if_pos hr]at this;rw[zno hr];exact this
 .rw[if_neg hr]at this;rw[znd hr];exact this
theorem yaS {w w':World}{b:Nat}{m:List (Int×Bool)}(h:MapAt NM w b m)(B:Below w w w'):MapAt NM w' b m:=by
 obtain⟨E,F,A,D,C⟩:=h;exact⟨E,F,(B.block _ (zlt A)).trans A,D,C⟩
structure RPX (tr:TypeId)(Z:Nat->Prop)(W:World)(rb b mb:Nat)(v:MV)(p:Img)(r:RP):Prop where
 h:W.heap[rb]? =some (.cells #[.pointer (some ⟨b,0,none⟩),(r.seen:Int),(r.next:Int),.map (some mb),r.closed,r.err] tr (0,0))
 mx:MX TT (fun q=>Z q/\¬q=rb/\¬q=mb) W b v p r.m
 fm:MapAt NM W mb (mOf r.fired)
 ne:¬rb=mb
 o1:¬MO v b rb
 o2:¬MO v b mb
def RO (rb b mb:Nat)(v:MV)(g:Nat):Prop:=g=rb\/g=mb\/MO v b g
structure RPK (rb b mb:Nat)(v:MV)(W:World)(v':MV)(W':World):Prop where
 keeps:Keeps (RO rb b mb v) W W'
 own:∀j,MO v' b j->MO v b j\/W.heap.size<=j
set_option linter.unusedVariables false
abbrev TR:TypeId:=59
end Go.Proofs.YtpagmlndgblhhaaGreatDoor
namespace Go.Va
open Go.Own Go.RowKit
open Go.Proofs.YtpagmlndgblhhaaGreatDoor
theorem yiH {c:Cm}(h:yaX c=0)(hw:c.v.wf):yaX (ybh c)=0/\(ybh c).v.wf:=by
 have hv:checkL c.v=0:=(yfS h).2.2.2.2.1;have A:=ya7 ⟨hv,hw⟩;refine⟨?_,A.2⟩;unfold yaX at h|-;show(match yk1 c.kind with
  |none=>(9:Int)
  |some (fa,fb,fn,fv)=>
   if c.time<0\/4611686018427387903<c.time\/c.a<0\/c.b<0\/(fa=false/\c.a≠0)\/(fb=false/\c.b≠0)then 1 else
   if 64<c.name.size then 2 else
   if(fn=false/\c.name.size≠0)\/(fv=false/\(yaa c.v).kind≠0)then 8 else checkL (yaa c.v))=0
 rw[yaJ,A.1];rw[hv]at h;exact h
end Go.Va
namespace Go.Va
open Go.Own Go.RowKit
open Go.Own.Cells (sz enc)
theorem yhX {α:Type}[Cells α]{P:Program}{t e:TypeId}{bytes:Nat}(E:ElemOf α P t e bytes){F:Nat->Prop}{W:World}{ops:Array Oper}{rest:List Oper}{o:Oper}{a:Act}{Q:Exit->Act->World->Prop}
  (hg:o.guard=none)(s x:Operand)(hop:o.op=Op.call {callee:=Callee.builtin Builtin.append,args:=#[s,x],argTypes:=#[t,t]})
  {v u:Value}(hs:a.eval s=v)(hx:a.eval x=u){xs ys:List α}(h:RowAt W e v xs)(hu:RdF F W u ys)
  (hl:(xs.length+ys.length)*bytes<=140737488355328)(h63:xs.length+ys.length<=maxLen)
  (hK:∀a1 q1 w1,RowAt w1 e (.slice a1 (xs.length+ys.length) q1) (xs++ys)->Keeps (fun j=>v.ownBlock=some j) W w1->(∀g,(Value.slice a1 (xs.length+ys.length) q1).ownBlock=some g->v.ownBlock=some g\/W.heap.size<=g)->wpList P ops Q rest (a.put o.dst (.slice a1 (xs.length+ys.length) q1)) w1):
  wpList P ops Q (o::rest) a W:=
 wpList_plain hg fun _ hk=>by
  obtain⟨a1,q1,w1,D,A,B,C⟩:=yf5 E h hu hl h63 o.type;unfold Oper.wp execOp;simp only[hop,resolve,invoke,builtin,Sem.run_bind,Sem.run_pure,Result.andThen_ok,List.map_toArray,List.map_cons,List.map_nil,hs,hx,D];exact hk _ _ (hK a1 q1 w1 A B C)
def yac (p:Img):Img:={p with consts:=p.consts.map yaa}
end Go.Va
namespace Go.Proofs.YtpagmlndgblhhaaGreatDoor
open Go.RowKit Go.Own Go.Own.MapTy Go.Va Go.Sort
open Go.Own.Cells (sz enc)
theorem ymr (w:World)(p:Addr)(v:Value):(w.setCell p v).heap.size=w.heap.size:=by simp[World.setCell]
def yli (W:World)(p:Img)(e:Ending)(w':World):Prop:=∃i:IC,e= .returned (.agg #[.slice i.ca i.cn i.cc,.slice i.ka i.kn i.kc,.slice i.na i.nn i.nc,i.pl])/\Hid (IAt (fun g=>W<=g) w' i (yac p)/\Below W W w')
structure IcL (w wr:World)(N:Nat)(i:IC)(cv v:Value)(code:List In)(l:List Val):Prop where
 b3:wr.heap[w.heap.size+2]? =some (.cells #[cv,v,.slice none 0 0,i.pl] 28 (0,0))
 b2:wr.heap[w.heap.size+1]? =some (.cells #[.slice none 0 0,.slice none 0 0,.slice none 0 0,.int .i64 0] 28 (0,0))
 b1:wr.heap[w.heap.size]? =some (.cells #[.slice i.ca i.cn i.cc,.slice i.ka i.kn i.kc,.slice i.na i.nn i.nc,i.pl] 28 (0,0))
 code:RowAt wr 106 cv code
 cown:∀g,cv.ownBlock=some g->w.heap.size+2<g/\g<N
 row:XRow (fun g=>N<=g/\¬v.ownBlock=some g) wr 38 v (l.map yaa)
 own:∀g,v.ownBlock=some g->N<=g
 low:w.heap.size+3<=N/\N<=wr.heap.size
 below:Below w w wr
theorem IcL.next {w wr W w8 w9:World}{N:Nat}{i:IC}{cv v v1:Value}{code:List In}{l:List Val}{ks:List VC}{c8:VC}{y:Val}{o:Obj}(h:IcL w wr N i cv v code l)(hP:Ptw (fun g=>N<=g/\¬v.ownBlock=some g) wr ks (l.map yaa))
  (K0:Below wr wr W)(hc:CF (fun g=>W<=g) w8 c8 (yaa y))(K8:Below W W w8)
  (hr1:RowAt w9 38 v1 (ks++[c8]))(hk1:Keeps (fun j=>v.ownBlock=some j) (w8.alloc o) w9)(hf1:∀g,v1.ownBlock=some g->v.ownBlock=some g\/(w8.alloc o).heap.size<=g):IcL w (w9.setCell ⟨w.heap.size+2,1,none⟩ v1) N i cv v1 code (l++[y]):=by
 have E:=K0.size;have L:=K8.size;have H:=h.low;have M:(w8.alloc o).heap.size=w8.heap.size+1:=by simp
 have own:∀g,v1.ownBlock=some g->N<=g:=fun g A=>by
  rcases hf1 g A with e|e
  .exact h.own g e
  .omega
 have D:Keeps (fun _=>False) wr (w8.alloc o):=(zkb ((K0.trans (K8.mono E)))).alloc _;have B:Keeps (fun j=>v.ownBlock=some j) wr w9:=(D.mono (fun _ _ f=>f.elim)).trans hk1 (fun j _ e=>e);have KS:Keeps (fun j=>j=w+2) w9 (w9.setCell ⟨w.heap.size+2,1,none⟩ v1):=Keeps.setCell (S:=fun j=>j=w+2) (p:=⟨w.heap.size+2,1,none⟩) (Keeps.refl _ _) (.inl rfl) _;have C:∀k,k<N->¬v.ownBlock=some k:=fun k hk e=>by have:=h.own k e;omega
 have b3:=(B.block _ (zlt h.b3) (C _ (by omega))).trans h.b3;have b2:=(B.block _ (zlt h.b2) (C _ (by omega))).trans h.b2;have b1:=(B.block _ (zlt h.b1) (C _ (by omega))).trans h.b1;have F:=B.size;refine⟨by simp[World.setCell,zni,b3],(znn _ _ _ _ (by simp)).trans b2,(znn _ _ _ _ (by simp)).trans b1,(h.code.keep B (fun g A=>C g (h.cown g A).2)).keep KS (fun g A e=>by have:=(h.cown g A).1;have e:g=w+2:=e;omega),h.cown,?_,own,⟨H.1,by rw[ymr];omega⟩,?_⟩
 .have J:Ptw (fun g=>(N<=g/\¬v.ownBlock=some g)/\g<w8) (w8.alloc o) ks (l.map yaa):=(hP.mono (G:=fun g=>(N<=g/\¬v.ownBlock=some g)/\g<w8) (fun g A hl=>⟨A,by omega⟩)).keep D (fun _ _ f=>f)
  have K:CF (fun g=>(N<=g/\¬v.ownBlock=some g)/\g<w8) (w8.alloc o) c8 (yaa y):=(hc.mono (G:=fun g=>(N<=g/\¬v.ownBlock=some g)/\g<w8) (fun g A hl=>⟨⟨by have A:W<=g:=A;omega,fun e=>by have A:W<=g:=A;have:=h.row.lt e;omega⟩,hl⟩)).keep (S:=fun _=>False) ((Keeps.refl _ _).alloc _) (fun _ _ f=>f);have I:=((J.app (Ptw.one K)).keep hk1 (fun g A e=>A.1.2 e)).mono (G:=fun g=>N<=g/\¬v1.ownBlock=some g) (fun g A _=>⟨A.1.1,fun e=>(hf1 g e).elim A.1.2 (fun q=>by have:=A.2;omega)⟩);rw[List.map_append];exact(XRow.of hr1 I).keep KS (fun g A e=>by have e:g=w+2:=e;have:=A.1;omega) (fun g A e=>by have e:g=w+2:=e;have:=own g A;omega)
 .exact(h.below.trans (B.below h.below.size (fun j hj e=>by have:=h.own j e;omega))).setCell (p:=⟨w.heap.size+2,1,none⟩) (by show w<=w.heap.size+2;omega) _
theorem ycs (F:Nat->Prop)(W:World)(i:IC)(p:Img)(H:IAt F W i p)(hz:∀x∈p.consts,szV x<=1073741824)(hlen:p.code.length<=4096/\p.consts.length<=4096/\p.names.length<=4096):
  Calls Tryz.prog 52 #[.agg #[.slice i.ca i.cn i.cc,.slice i.ka i.kn i.kc,.slice i.na i.nn i.nc,i.pl]] W (yli W p):=by
 obtain⟨h1,h2,h3⟩:=H.lens;obtain⟨ca,cn,cc,ka,kn,kc,na,nn,nc,pl⟩:=i;dsimp only at h1 h2 h3|-;have c:=zh6 H hz hlen h1 h2 h3;have HE:=zhd H.consts.elems.2.2;have M:kn<=4096:=by omega
 clear H hz hlen h1 h2 h3;go_in;go_upto_region 2 with(fail);refine yab ?_;intro w1 G;have B1:Below W W w1:=by rw[G];exact((zal).alloc (by simp) _).alloc (by simp;omega) _
 have q:w1.heap[W.heap.size+2]? =some (.cells #[.slice none 0 0,.slice none 0 0,.slice none 0 0,pl] 28 (0,0)):=by rw[G];exact ygQ (by simp)
 have x2:w1.heap[W.heap.size+1]? =some (.cells #[.slice none 0 0,.slice none 0 0,.slice none 0 0,.int .i64 0] 28 (0,0)):=by rw[G];exact(zne _ _ _ (by simp)).trans (ygQ (by simp))
 have x1:w1.heap[W.heap.size]? =some (.cells #[.slice ca cn cc,.slice ka kn kc,.slice na nn nc,pl] 28 (0,0)):=by rw[G];exact(zne _ _ _ (by simp;omega)).trans ((zne _ _ _ (by simp)).trans (ygQ rfl))
 have An:w1.heap.size=W.heap.size+3:=by rw[G];simp
 have A1:=zca q 0 rfl;have f3:∀o,w1.frozen? ⟨W.heap.size+2,o,none⟩=false:=fun o=>zfr q o;have A2:=zca x1 0 rfl;have l3:W.heap.size+2<w1.heap.size:=zlt q;have l1:W<w1.heap.size:=zlt x1;have HC:=zhd (c.o.1.code.keep (S:=fun _=>False) (zkb B1) (fun _ _ f=>f));have H1:=zh5 B1 x1 x2 q An;have Av:=zhd (show(([]:List In).length+p.code.length)*16<=140737488355328/\([]:List In).length+p.code.length<=maxLen from by have:=c.o.2.2.1.1;unfold maxLen;simp;omega);clear G B1 x1 x2 q An;go_upto_region 2 with(fail)
 go_wp2_with (at_builtin;refine yhX (α:=In) ynG rfl (.tmp 10) (.tmp 12) rfl rfl rfl (RowAt.nil _ _) HC.o Av.o.1 Av.o.2 ?_;intro a R Q Aa V Ae;simp only[List.length_nil,Nat.zero_add,List.nil_append]at Aa Ae|-;have C:=(V.block (W.heap.size+2) l3 (fun e=>by cases e)).trans H1.o.2.2.2.1;have Y:=(V.block W l1 (fun e=>by cases e)).trans H1.o.2.1;have A0:Q.cell? ⟨W.heap.size+2,0,none⟩=some (.slice none 0 0):=(by rw[zch C];rfl);have d3:∀o,Q.frozen? ⟨W.heap.size+2,o,none⟩=false:=(fun o=>zfr C o);have m3:=zlt C;have Az:Q.cell? ⟨W,1,none⟩=some (.slice ka kn kc):=(by rw[zch Y];rfl);have m1:=zlt Y;have m:=zh5 Aa V Ae C Y;clear Aa V Ae C Y);go_upto_region 3 with(fail);refine yab ?_;intro w3 J;have KS:Keeps (fun j=>j=W+2) Q w3:=by rw[J];exact Keeps.setCell (S:=fun j=>j=W+2) (p:=⟨W.heap.size+2,0,none⟩) (Keeps.refl _ _) (.inl rfl) _
 have Ay:w1<=Q.heap.size:=m.o.2.1.size;have Ax:w3.heap.size=Q.heap.size:=by rw[J,ymr]
 have G:=H1.o.2.2.2.2;have Af:∀g,(Value.slice a p.code.length R).ownBlock=some g->w1.heap.size<=g:=fun g A=>(m.o.2.2.1 g A).resolve_left (fun e=>by cases e);have Ag:RowAt Q 106 (.slice a p.code.length R) p.code:=m.o.1;have b:IcL W w3 Q.heap.size ⟨ca,cn,cc,ka,kn,kc,na,nn,nc,pl⟩ (.slice a p.code.length R) (.slice none 0 0) p.code []:=by
  refine⟨by rw[J];have:=m.o.2.2.2.1;simp[World.setCell,zni,this],?_,?_,Ag.keep KS (fun g A e=>by have:=Af g A;have e:g=W+2:=e;omega),fun g A=>⟨by have:=Af g A;omega,Ag.lt A⟩,XRow.nil _ _ _,(fun g h=>by cases h),⟨by omega,by omega⟩,?_⟩
  .rw[J,znn _ _ _ _ (by simp),m.o.2.1.block (W.heap.size+1) (by omega) (fun e=>by cases e)]
   exact H1.o.2.2.1
  .rw[J,znn _ _ _ _ (fun e=>by have e:W.heap.size=W.heap.size+2:=e;omega)]
   exact m.o.2.2.2.2
  .exact(H1.o.1.trans ((m.o.2.1.below (znc _) (fun j hj e=>by cases e)).mono H1.o.1.size)).trans (KS.below (by have:=H1.o.1.size;omega) (fun j hj e=>by have e:j=W+2:=e;omega))
 have Az:=zca b.b1 1 rfl;have m1:=zlt b.b1;have At:=zhd b;obtain⟨L,N⟩:∃n,p.code.length=n:=⟨_,rfl⟩;have Bb:=zhd N;rw[N]at At|-;clear N;clear J KS Ay Ax G Af Ag b m A0 d3 m3 A1 f3 A2 l3 l1 HC;go_wp2_with fail;go_loopg [18] kn (fun gk v18 wr=>∃j:Nat,v18= .int .i64 j/\j<=kn/\gk=kn - j/\Hid (∃v,IcL W wr Q.heap.size ⟨ca,cn,cc,ka,kn,kc,na,nn,nc,pl⟩ (.slice a L R) v p.code (p.consts.take j)))
 case atStart=>exact⟨0,rfl,znq _,rfl,zhd ⟨_,At.o⟩⟩
 case round=>
  obtain⟨j,rfl,hj,Ac,D⟩:=hrel;obtain⟨v,D⟩:=D.o;obtain⟨r,P,K⟩:=D.row.cells;obtain⟨Z,c3,rfl⟩:=P.slice;have M:r.length=j:=by
   rw[K.1,zmd,List.length_take];have:=c.o.2.2.2.2.1;omega
  rw[M]at P D K;obtain⟨z0,z1,z2,z3,_⟩:=zq4 D.b3;have zf:∀o,wr.frozen? ⟨W.heap.size+2,o,none⟩=false:=fun o=>zfr D.b3 o;have zl:W.heap.size+2<wr.heap.size:=zlt D.b3;have y0:=zca D.b1 2 rfl;have yl:W<wr.heap.size:=zlt D.b1;obtain⟨x0,x1,x2,q,_⟩:=zq4 D.b2;have xf:∀o,wr.frozen? ⟨W.heap.size+1,o,none⟩=false:=fun o=>zfr D.b2 o;have xl:W.heap.size+1<wr.heap.size:=zlt D.b2;by_cases hjn:j<kn
  .obtain⟨y,hy⟩:=yae (l:=p.consts) (k:=j) (by have:=c.o.2.2.2.2.1;omega)
   obtain⟨g,A6,ha,Ba,A,Ar⟩:=HE.o.resolve_left (fun e=>by rw[e]at hy;simp at hy);obtain⟨c',hC,q0,q1,Ai,q3⟩:=Ar j y hy;rw[<-D.below.cell (p:=⟨g,_,none⟩) A]at q0 q1 Ai q3;have A9:g<wr:=znj A D.below.size;have Ah:=zhd (show(r.length+[(⟨0,0,⟨#[]⟩,none,0,0⟩:VC)].length)*56<=140737488355328/\r.length+[(⟨0,0,⟨#[]⟩,none,0,0⟩:VC)].length<=maxLen/\r.length+[(⟨0,0,⟨#[]⟩,none,0,0⟩:VC)].length=j+1 from by
    have e:r.length+[(⟨0,0,⟨#[]⟩,none,0,0⟩:VC)].length=j+1:=by rw[M];rfl
    rw[e];exact⟨by omega,by unfold maxLen;omega,rfl⟩)
   have A5:(j:Int)<kn:=by omega
   have A7:wrap64 ((j:Int)+1)=(j:Int)+1:=by unfold wrap64;omega
   have A4:=zhd (fun W' (B:Below wr wr W')=>yay y c'.kind c'.n c'.s c'.la c'.ln c'.lc F W' ((hC.keep (S:=fun _=>False) (zkb D.below) (fun _ _ f=>f)).keep (S:=fun _=>False) (zkb B) (fun _ _ f=>f)) (c.o.2.1 y (zmg hy)));have Am:p.consts.take (j+1)=p.consts.take j++[y]:=by rw[List.take_add_one,hy];rfl
   have NB:=zhd (show∀g,(Value.slice Z j c3).ownBlock=some g->g≠W.heap.size+2 from fun g A e=>by have:=D.own g A;have:=D.low;omega);have E:=zh6 D P K Am Ac M;subst ha;clear Ar hC hy Am D P K Ac M hj;go_upto_region 6 with(fail);refine yab ?_;intro w5 t;have B5:=zba t;have As:=zha t;obtain⟨r0,r1,r2,r3,rl⟩:=zq4 As;have T:=(B5.block _ zl).trans E.o.1.b3;have s1:=zca T 1 rfl;have sl:=zlt T;have CL:=zhd (A4.o w5.drew B5.drew);have d:=zh3 B5 T (E.o.2.1.below B5);clear t B5 As T q0 q1 Ai q3 z0 z1 z2 z3 zf zl y0 yl x0 x1 x2 q xf xl;go_region_law (first
    |(go_simp;go_at_call 58;refine CL.o.mono ?_;rintro e w8 ⟨⟨k8,n8,s8,Al,Aj,Ak⟩,rfl,H8⟩;have O:=(H8.o.2.block (W.heap.size+2) sl).trans d.o.2.1;have y3:w8.cell? ⟨W.heap.size+2,1,none⟩=some (.slice Z j c3):=(by rw[zch O];rfl);have fy:∀o,w8.frozen? ⟨W.heap.size+2,o,none⟩=false:=(fun o=>zfr O o);have ly:W.heap.size+2<w8.heap.size:=(zlt O);have HG:=zh2 O (d.o.2.2.drew.below H8.o.2);clear O)
    |(refine yaC (α:=VC) (o:=⟨some 27,_,_,_,_,_⟩) yfO (by rfl) (.tmp 23) (.tmp 26) (by rfl) (v:=.slice Z j c3) (u:=.slice (some ⟨w8,0,none⟩) 1 1) (by rfl) (by rfl) (xs:=r) (ys:=[⟨k8,n8,s8,Al,Aj,Ak⟩]) (HG.o.2.alloc _) (RowAt.lit (α:=VC) (y:=⟨k8,n8,s8,Al,Aj,Ak⟩) (znb _ _)) Ah.o.1 Ah.o.2.1 (j+1) Ah.o.2.2 ?_;intro a1 cp w9 Ao Ab Aq;have X:=(Ab.block (W.heap.size+2) (by simp;omega) (fun e=>NB.o _ e rfl)).trans ((zne _ _ _ ly).trans HG.o.1);have t3:w9.cell? ⟨W.heap.size+2,1,none⟩=some (.slice Z j c3):=(by rw[zch X];rfl);have fz:∀o,w9.frozen? ⟨W.heap.size+2,o,none⟩=false:=(fun o=>zfr X o);have lz:W.heap.size+2<w9.heap.size:=zlt X;have FF:=zh3 Ao Ab Aq;clear Ao Ab Aq X))
   all_goals
    go_wp2_with fail;go_roundg (kn - (j+1))
    case measure=>have:=E.o.2.2.2.2.1;omega
    case rel=>exact⟨j+1,by simp,hjn,rfl,zhd ⟨_,by rw[E.o.2.2.2.1];exact E.o.1.next E.o.2.2.1 d.o.1.drew H8.o.1 H8.o.2 FF.o.1 FF.o.2.1 FF.o.2.2⟩⟩
  .obtain rfl:j=kn:=by omega
   have A8:¬(j:Int)<j:=by omega
   have hT:p.consts.take j=p.consts:=zmj (by have:=c.o.2.2.2.2.1;omega);rw[hT]at D K;have A3:=zhd (c.o.1.names.keep (S:=fun _=>False) (zkb D.below) (fun _ _ f=>f));have Au:=zhd (show(([]:List ByteArray).length+p.names.length)*16<=140737488355328/\([]:List ByteArray).length+p.names.length<=maxLen from by have:=c.o.2.2.1.2.2;unfold maxLen;simp;omega);have E:=zhd D;clear hT D P K Ac hj
   go_wp2_with (at_builtin;go_must (refine yhX (α:=ByteArray) ypQ rfl (.tmp 31) (.tmp 33) rfl rfl rfl (RowAt.nil _ _) A3.o Au.o.1 Au.o.2 ?_);intro a5 q5 w5 z U Ad;simp only[List.length_nil,Nat.zero_add,List.nil_append]at z Ad|-;have C:=(U.block (W.heap.size+2) zl (fun e=>by cases e)).trans E.o.b3;have I:=(U.block (W.heap.size+1) xl (fun e=>by cases e)).trans E.o.b2;have t0:w5.cell? ⟨W.heap.size+2,0,none⟩=some (.slice a L R):=(by rw[zch C];rfl);have t1:w5.cell? ⟨W.heap.size+2,1,none⟩=some (.slice Z j c3):=(by rw[zch C];rfl);have t2:w5.cell? ⟨W.heap.size+2,2,none⟩=some (.slice none 0 0):=(by rw[zch C];rfl);have t3:w5.cell? ⟨W.heap.size+2,3,none⟩=some (.int .i64 pl):=(by rw[zch C];rfl);have tf:∀o,w5.frozen? ⟨W.heap.size+2,o,none⟩=false:=(fun o=>zfr C o);have tl:=zlt C;have u0:w5.cell? ⟨W.heap.size+1,0,none⟩=some (.slice none 0 0):=(by rw[zch I];rfl);have u1:w5.cell? ⟨W.heap.size+1,1,none⟩=some (.slice none 0 0):=(by rw[zch I];rfl);have u2:w5.cell? ⟨W.heap.size+1,2,none⟩=some (.slice none 0 0):=(by rw[zch I];rfl);have u3:w5.cell? ⟨W.heap.size+1,3,none⟩=some (.int .i64 0):=(by rw[zch I];rfl);have uf:∀o,w5.frozen? ⟨W.heap.size+1,o,none⟩=false:=(fun o=>zfr I o);have ul:=zlt I;have d:=zh3 z U Ad;clear z U Ad C I)
   refine zng (v:=.agg #[.slice a L R,.slice Z j c3,.slice a5 p.names.length q5,pl]) (by simp only[results,Tryz.results52];go_simp) rfl ⟨⟨a,L,R,Z,j,c3,a5,p.names.length,q5,pl⟩,rfl,zhd ⟨?_,?_⟩⟩
   .have K5:Keeps (fun _=>False) wr w5:=d.o.2.1.mono (fun _ _ e=>by cases e)
    have KZ:=(((((Keeps.refl (fun j=>j=W+2\/j=W+1) w5).setCell (p:=⟨W.heap.size+1+1,2,none⟩) (.inl (.inl rfl)) (.slice a5 p.names.length q5)).setCell (p:=⟨W.heap.size+1,0,none⟩) (.inl (.inr rfl)) (.slice a L R)).setCell (p:=⟨W.heap.size+1,1,none⟩) (.inl (.inr rfl)) (.slice Z j c3)).setCell (p:=⟨W.heap.size+1,2,none⟩) (.inl (.inr rfl)) (.slice a5 p.names.length q5)).setCell (p:=⟨W.heap.size+1,3,none⟩) (.inl (.inr rfl)) (.int .i64 pl);obtain⟨r,hR,hP⟩:=E.o.row.cells;have Ap:=E.o.low;refine⟨RdF.of_row ((E.o.code.keep K5 (fun _ _ f=>f)).keep KZ (fun g A e=> ?_)) (fun g A=> ?_),VF.of (RdF.of_row ((hR.keep K5 (fun _ _ f=>f)).keep KZ (fun g A e=> ?_)) (fun g A=> ?_)) (((hP.keep K5 (fun _ _ f=>f)).keep KZ (fun g A e=> ?_)).mono (fun g A _=> ?_)),RdF.of_row (d.o.1.keep KZ (fun g A e=> ?_)) (fun g A=> ?_),c.o.1.pl⟩
    .have:=(E.o.cown g A).1;omega
    .show W<=g;have:=(E.o.cown g A).1;omega
    .have:=E.o.own g A;omega
    .show W<=g;have:=E.o.own g A;omega
    .have:=A.1;omega
    .have:=A.1;omega
    .rcases d.o.2.2 g A with h|h
     .cases h
     .omega
    .rcases d.o.2.2 g A with h|h
     .cases h
     .show W<=g;omega
   .have KZ:=(((((Keeps.refl (fun j=>j=W+2\/j=W+1) w5).setCell (p:=⟨W.heap.size+1+1,2,none⟩) (.inl (.inl rfl)) (.slice a5 p.names.length q5)).setCell (p:=⟨W.heap.size+1,0,none⟩) (.inl (.inr rfl)) (.slice a L R)).setCell (p:=⟨W.heap.size+1,1,none⟩) (.inl (.inr rfl)) (.slice Z j c3)).setCell (p:=⟨W.heap.size+1,2,none⟩) (.inl (.inr rfl)) (.slice a5 p.names.length q5)).setCell (p:=⟨W.heap.size+1,3,none⟩) (.inl (.inr rfl)) (.int .i64 pl)
    have Ap:=E.o.low;have hb:=E.o.below.size;have K5:Keeps (fun _=>False) wr w5:=d.o.2.1.mono (fun _ _ e=>by cases e);exact(E.o.below.trans ((K5.below (znc _) (fun _ _ f=>f)).mono hb)).trans (KZ.below (by have:=K5.size;omega) (fun jz hj e=>by omega))
end Go.Proofs.YtpagmlndgblhhaaGreatDoor
namespace Go.Va
open Go.Own Go.RowKit
open Go.Proofs.YtpagmlndgblhhaaGreatDoor
theorem ygJ:∀l:List Val,yaK (l.map yaa)=yaK l
 |[]=>rfl
 |x::r=>by rw[List.map_cons,yaK,yaK,yaz,ygJ r]
theorem ydb (p:Img):∀l:List In,ybF (yac p) l=ybF p l
 |[]=>rfl
 |c::r=>by
  have hm:∀k,mostL (yac p) k=mostL p k:=fun k=>by unfold mostL yac;rw[zmd]
  rw[ybF,ybF,hm,ydb p r]
theorem yjm (p:Img):imgL (yac p)=imgL p:=by
 unfold imgL;rw[ydb];unfold yac;simp only[zmd,ygJ]
theorem ycy (p:Img):yaN (yac p)=yaN p:=by
 unfold yaN;rw[yjm];rfl
end Go.Va
namespace Go.Proofs.YtpagmlndgblhhaaGreatDoor
open Go.RowKit Go.Own Go.Own.MapTy Go.Va Go.Sort
open Go.Own.Cells (sz enc)
theorem yks {n:Nat}(h:n<=16):(madeCells #[.int .i64 0,.int .i64 0,.string .empty,.slice none 0 0] (n*4)).toList=(List.replicate n (⟨0,0,.empty,none,0,0⟩:VC)).flatMap enc:=by
 have e:∀k,(madeCells #[.int .i64 0,.int .i64 0,.string .empty,.slice none 0 0] k).toList=(List.range k).map (fun j=>(#[.int .i64 0,.int .i64 0,.string .empty,.slice none 0 0]:Array Value)[j%4]!):=fun k=>by simp[madeCells]
 rw[e];have A:n=0\/n=1\/n=2\/n=3\/n=4\/n=5\/n=6\/n=7\/n=8\/n=9\/n=10\/n=11\/n=12\/n=13\/n=14\/n=15\/n=16:=by omega
 rcases A with rfl|rfl|rfl|rfl|rfl|rfl|rfl|rfl|rfl|rfl|rfl|rfl|rfl|rfl|rfl|rfl|rfl<;>rfl
theorem ynw:(Tryz.prog.info? 38).map (fun i=>(i.zero,i.size,i.bytes))=some (some (.agg #[.int .i64 0,.int .i64 0,.string .empty,.slice none 0 0]),4,56):=by kernel_rfl
def yo9 (W:World)(p:Img)(b:Nat)(v:MV)(w':World):Prop:=MX TT (fun j=>W<=j) w' b v (yac p) (ms0 (yac p))/\(∀j,MO v b j->W.heap.size<=j)/\Below W W w'
def ynW (W:World)(p:Img)(er:Int)(e:Ending)(w':World):Prop:=
 (er≠0/\e= .returned (.tuple #[.pointer none,er])/\Hid (Below W W w'))\/(er=0/\∃(b:Nat) (v:MV),e= .returned (.tuple #[.pointer (some ⟨b,0,none⟩),.int .i64 0])/\Hid (yo9 W p b v w'))
theorem yni {W w2 w3 w4:World}{p:Img}{i3:IC}{n:Nat}(hW:W<=w2.heap.size)(B23:Below w2 w2 w3)(BW:Below W W w3)(H3:IAt (fun g=>w2<=g) w3 i3 (yac p))(B4:Below w3 w3 w4)
  (hm4:w4.heap[w3.heap.size]? =some (.cells (ybW ⟨.slice none 0 0,i3,.slice none 0 0,⟨0,0,⟨#[]⟩,none,0,0⟩,.slice none 0 0,.slice none 0 0,.slice none 0 0,.slice none 0 0⟩ (ms0 (yac p))).toArray 123 (0,0)))(hs4:w4.heap.size=w3.heap.size+1)(hn:p.places=n)(hn16:n<=16):
  yo9 W p w3.heap.size ⟨.slice none 0 0,i3,.slice (some ⟨w4,0,none⟩) n n,⟨0,0,⟨#[]⟩,none,0,0⟩,.slice none 0 0,.slice none 0 0,.slice none 0 0,.slice none 0 0⟩
   ((w4.setCell ⟨w3,5,none⟩ (.slice (some ⟨w4,0,none⟩) n n)).alloc (.cells (madeCells #[.int .i64 0,.int .i64 0,.string .empty,.slice none 0 0] (n*4)) 38)):=by
 obtain⟨w5,C⟩:∃w5,w5=w4.setCell ⟨w3,5,none⟩ (.slice (some ⟨w4,0,none⟩) n n):=⟨_,rfl⟩;have J:w5.heap.size=w4.heap.size:=by rw[C];simp[World.setCell]
 have P:w5.heap[w3.heap.size]? =some (.cells (ybW ⟨.slice none 0 0,i3,.slice (some ⟨w4,0,none⟩) n n,⟨0,0,⟨#[]⟩,none,0,0⟩,.slice none 0 0,.slice none 0 0,.slice none 0 0,.slice none 0 0⟩ (ms0 (yac p))).toArray 123 (0,0)):=by
  rw[C];simp only[World.setCell,zni,hm4];rfl
 have N:Below w3 w3 w5:=by rw[C];exact B4.trans ⟨rfl,rfl,rfl,by simp[World.setCell],fun k hk=>znn _ _ _ _ (Nat.ne_of_lt hk)⟩
 rw[<-C];obtain⟨w6,D⟩:∃w6,w6=w5.alloc (.cells (madeCells #[.int .i64 0,.int .i64 0,.string .empty,.slice none 0 0] (n*4)) 38):=⟨_,rfl⟩;have O:w6.heap[w4.heap.size]? =some (.cells (madeCells #[.int .i64 0,.int .i64 0,.string .empty,.slice none 0 0] (n*4)) 38 (0,0)):=by rw[D,<-J];exact znb _ _
 have F:=zba D;rw[<-D];have L:=(F.block w3 (by omega)).trans P;have H:Below w3 w3 w6:=N.trans (F.mono (by omega));have E:∀j,MO ⟨.slice none 0 0,i3,.slice (some ⟨w4,0,none⟩) n n,⟨0,0,⟨#[]⟩,none,0,0⟩,.slice none 0 0,.slice none 0 0,.slice none 0 0,.slice none 0 0⟩ w3.heap.size j->j=w3.heap.size\/j=w4:=by
  rintro j ⟨i,A⟩
  match i,A with
  |0,A=>cases A;exact .inl rfl
  |1,A=>cases A
  |2,A=>cases A;exact .inr rfl
  |3,A=>cases A
  |4,A=>cases A
  |5,A=>cases A
  |6,A=>cases A
  |n+7,A=>cases A
 have R:=B23.size;refine⟨⟨L,XRow.nil _ _ _,?_,XRow.nil _ _ _,XRow.nil _ _ _,XRow.nil _ _ _,XRow.nil _ _ _,?_,yaI _ _,?_⟩,fun j B=> ?_,?_⟩
 .refine XRow.of (cs:=List.replicate n (⟨0,0,.empty,none,0,0⟩:VC)) (RowAt.made O (yks hn16) (by simp) (znf hn16 (by decide))) ⟨by simp[ms0,yac,hn],fun i c x hc hx=> ?_⟩
  have K:=List.eq_of_mem_replicate (zmg hc);have I:=List.eq_of_mem_replicate (zmg hx);subst K I;exact yaI _ _
 .have M:=H3.mono (G:=fun g=>w2<=g/\g<w3) (fun g h1 h2=>⟨h1,h2⟩)
  have Q:=M.below H;exact Q.mono (fun g hg _=>⟨fun e=>by rcases E g e with rfl|rfl<;>omega,show W<=g by omega⟩)
 .rintro i j g A B
  match i,A with
  |0,A=>
   cases A
   match j,B with
   |0,B=>rfl
   |2,B=>have h:w4.heap.size=w3.heap.size:=Option.some.inj B;omega
   |1,B=>cases B
   |3,B=>cases B
   |4,B=>cases B
   |5,B=>cases B
   |6,B=>cases B
   |n+7,B=>cases B
  |2,A=>
   cases A
   match j,B with
   |0,B=>have h:w3.heap.size=w4.heap.size:=Option.some.inj B;omega
   |2,B=>rfl
   |1,B=>cases B
   |3,B=>cases B
   |4,B=>cases B
   |5,B=>cases B
   |6,B=>cases B
   |n+7,B=>cases B
  |1,A=>cases A
  |3,A=>cases A
  |4,A=>cases A
  |5,A=>cases A
  |6,A=>cases A
  |n+7,A=>cases A
 .rcases E j B with rfl|rfl<;>have:=BW.size<;>omega
 .exact BW.trans (H.mono BW.size)
theorem ykp (F:Nat->Prop)(W:World)(i:IC)(p:Img)(H:IAt F W i p)(hw:∀x∈p.consts,x.wf)(r:Fa×Int×Int)(hr:yaN p=r):
  Calls Tryz.prog 14 #[.agg #[.slice i.ca i.cn i.cc,.slice i.ka i.kn i.kc,.slice i.na i.nn i.nc,i.pl]] W (ynW W p r.2.2):=by
 obtain⟨U,D⟩:∃U,U=W.alloc (.cells #[.slice i.ca i.cn i.cc,.slice i.ka i.kn i.kc,.slice i.na i.nn i.nc,i.pl] 28):=⟨_,rfl⟩;have y:=zba D;have l:=zha D;have t:=H.keep (S:=fun _=>False) (zkb y) (fun _ _ f=>f);have CK:=zhd (yeY F i p U t hw r hr);obtain⟨c0,c1,c2,c3,l0⟩:=zq4 l;have R:=zh5 y l t hw hr;clear y l t H hw hr;go_in;go_wp2_with fail;rw[<-D];clear D;refine CK.o.mono ?_;rintro e j ⟨hv,rfl,g⟩;obtain⟨fa,at_,b⟩:=r;dsimp only at g|-;obtain⟨xa,xc,rfl⟩:=g.o.1.slice;go_upto_region 2 with(fail);refine yab ?_;intro w2 L;have B2:Below j j w2:=by rw[L];exact(zal).alloc (by simp) _
 have m:w2.heap[j.heap.size+1]? =some (.cells #[at_,b] 112 (0,0)):=by rw[L];exact yat
 have e1:=zca m 1 rfl;have el:=zlt m;have I:Below U U w2:=g.o.2.2.trans (B2.mono g.o.2.2.size);have G:=(I.block W l0).trans R.o.2.1;have O:=R.o.1.trans (I.mono R.o.1.size);have T:=zh3 I G O;clear L B2 m I c0 c1 c2 c3 l0 CK;cases hez:(b !=0)with
 |true=>
  have a:b≠0:=by simpa using hez
  have HN:=zhd a;clear G O a;go_wp2_with fail;go_region
  all_goals
   go_wp2_with fail;exact zng (v:=.tuple #[.pointer none,b]) (by simp only[results,Tryz.results14];go_simp) rfl (.inl ⟨HN.o,rfl,zhd T.o.2.2.drew⟩)
 |false=>
  obtain rfl:b=0:=by simpa using hez
  clear hez;have K:=(yca R.o.2.2.2.2).2 rfl;have k:=ybE K.2.img;have X:∀x∈p.consts,szV x<=1073741824:=fun x hx=>by have:=ymf K.2.img x hx;omega
  have CL:=zhd (ycs F w2 i p (R.o.2.2.1.keep (S:=fun _=>False) (zkb T.o.1) (fun _ _ f=>f)) X ⟨by omega,by omega,by omega⟩);obtain⟨c0,c1,c2,c3,l2⟩:=zq4 G;have Z:i.pl=p.places:=R.o.2.2.1.pl;obtain⟨n,hn⟩:∃n:Nat,p.places=n:=⟨p.places.toNat,by omega⟩;have A:n<=16:=by omega
  have N:=zh4 Z hn A K.2;clear G O k X K Z hn A;go_wp2_with fail;refine CL.o.mono ?_;rintro e Q ⟨i3,rfl,d⟩;have E:=(d.o.2.block W l2).trans T.o.2.1;have d3:Q.cell? ⟨W,3,none⟩=some (.int .i64 (n:Int)):=by rw[zch E,<-N.o.2.1,<-N.o.1];rfl
  have l3:=zlt E;have q:=zhd E;clear E c0 c1 c2 c3 l2;go_upto_region 5 with(fail);refine yab ?_;intro c C;have B:c.heap[Q.heap.size]? =some (.cells (ybW ⟨.slice none 0 0,i3,.slice none 0 0,⟨0,0,⟨#[]⟩,none,0,0⟩,.slice none 0 0,.slice none 0 0,.slice none 0 0,.slice none 0 0⟩ (ms0 (yac p))).toArray 123 (0,0)):=by
   rw[C];exact znb _ _
  have u:=zba C;have Y:c.heap.size=Q.heap.size+1:=by rw[C];simp
  have M:=(u.block W l3).trans q.o;have d4:c.cell? ⟨W,3,none⟩=some (.int .i64 (n:Int)):=by rw[zch M,<-N.o.2.1,<-N.o.1];rfl
  have l4:=zlt M;have m5:=zca B 5 rfl;have mf:∀o,c.frozen? ⟨Q,o,none⟩=false:=fun o=>zfr B o;have ml:=zlt B;have s:=zh3 B u Y;clear C B u Y M d3 l3;obtain⟨J,V,z,ts,tb⟩:∃J,Tryz.prog.info? 38=some J/\J.zero=some (.agg #[.int .i64 0,.int .i64 0,.string .empty,.slice none 0 0])/\J.size=4/\J.bytes=56:=by
   have h:=ynw;cases hq:Tryz.prog.info? 38 with
   |none=>rw[hq]at h;cases h
   |some J=>
    rw[hq]at h;simp only[Option.map_some,Option.some.injEq,Prod.mk.injEq]at h;exact⟨J,rfl,h.1,h.2.1,h.2.2⟩
  have A:=N.o.2.2.1;have Aa:∀W:World,(Instr.makeSlice 25 (.int .i64 (n:Int)) (.int .i64 (n:Int))).run Tryz.prog W= .ok (.slice (some ⟨W,0,none⟩) n n) (W.alloc (.cells (madeCells #[.int .i64 0,.int .i64 0,.string .empty,.slice none 0 0] (n*4)) 38)):=fun W=>by
   have:=run_make (P:=Tryz.prog) W 25 38 J (.agg #[.int .i64 0,.int .i64 0,.string .empty,.slice none 0 0]) Tryz.underlying25 V z .i64 .i64 n n (by omega) (by omega) (by rw[tb];omega) (by omega);rw[ts]at this;simpa[Value.cells]using this
  clear V z ts tb A;go_wp2_with fail;exact zng (v:=.tuple #[.pointer (some ⟨Q,0,none⟩),.int .i64 0]) (by simp only[results,Tryz.results14];go_simp) rfl (.inr ⟨rfl,Q.heap.size,_,rfl,zhd (yni (T.o.2.2.size) d.o.2 (T.o.2.2.trans (d.o.2.mono T.o.2.2.size)) d.o.1 s.o.2.1 s.o.1 s.o.2.2 N.o.2.1 N.o.2.2.1)⟩)
set_option linter.unusedVariables false
theorem yc6 {p:Img}{fa:Fa}{at_:Int}(hw:∀x∈p.consts,x.wf)(hck:yaN p=(fa,at_,0)):Known (yac p) fa/\Pk (yac p)/\fa.span<=(yac p).code.length+1/\St (yac p) fa (ms0 (yac p)):=by
 have E:=((yca hck).2 rfl).2;have B:=ybE E.img;have A:yaN (yac p)=(fa,at_,0):=(ycy p).trans hck;have D:=((yca A).2 rfl).2;exact⟨D,⟨fun x hx=>by
  obtain⟨y,C,rfl⟩:=List.mem_map.1 hx;exact ya7 ⟨ycx B.2.2.2.2.2.2.1 y C,hw y C⟩,fun x hx=>yip B.2.2.2.2.2.2.2.1 x hx⟩,ymV A,St.zero D B.2.2.2.2.1⟩
def yqW (W:World)(p:Img)(r:RP)(rb b mb:Nat)(v:MV)(w':World):Prop:=RPX TR (fun j=>W<=j) w' rb b mb v (yac p) r/\(∀j,RO rb b mb v j->W.heap.size<=j)/\Below W W w'
set_option linter.unusedVariables false
theorem yhW (F:List Int)(l:List Cm)(c:Cm):NL F (l++[c])=bif ybe F c then NL F l else NL F l++[c]:=by
 rw[yfq,yds];cases ybe F c<;>simp[ypb]
end Go.Proofs.YtpagmlndgblhhaaGreatDoor
namespace Go.Va
open Go.Own Go.RowKit
open Go.Proofs.YtpagmlndgblhhaaGreatDoor
theorem yhB (l:List Ev)(e:Ev):ybX (l++[e])=bif e.kind==12 then ybX l++[e.a]else ybX l:=by
 unfold ybX;rw[List.filter_append,List.filter_cons];cases(e.kind==12)<;>simp
theorem yfe (p:Img)(s:MS)(l:List Ev)(e:Ev):ycv p s (l++[e])=(yah p (ycv p s l) e).2:=by rw[ygu];rfl
end Go.Va
namespace Go.Proofs.YtpagmlndgblhhaaGreatDoor
open Go.RowKit Go.Own Go.Own.MapTy Go.Va Go.Sort
open Go.Own.Cells (sz enc)
set_option linter.unusedVariables false
set_option linter.unusedSimpArgs false
def yo0 (W:World)(p:Img)(er:Int)(l:List Ev)(e:Ending)(w':World):Prop:=
 (er≠0/\e= .returned (.tuple #[.slice none 0 0,er])/\Hid (Below W W w'))\/(er=0/\∃r:Value,e= .returned (.tuple #[r,.int .i64 0])/\Hid (XRow (fun g=>W<=g) w' 40 r (yaw (yac p) l)/\(∀g,r.ownBlock=some g->W.heap.size<=g)/\Below W W w'))
def yqO (w5:World)(mb n:Nat)(l:List Ev)(gk:Nat)(v27:Value)(wr:World):Prop:=
 ∃(i:Nat) (cs:List Int),v27= .int .i64 i/\i<=n/\gk=n - i/\MapAt NM wr mb (mOf cs)/\(∀a,a∈cs↔a∈ybX (l.take i))/\Keeps (fun j=>j=mb) w5 wr
def yqN (w6:World)(Z:Nat->Prop)(p:Img)(fa:Fa)(b:Nat)(v:MV)(n:Nat)(l:List Ev)(gk:Nat)(v40:Value)(wr:World):Prop:=
 ∃(i:Nat) (v':MV),v40= .int .i64 i/\i<=n/\gk=n - i/\MX TT Z wr b v' p (ycv p (ms0 p) (l.take i))/\MK b v w6 v' wr/\St p fa (ycv p (ms0 p) (l.take i))/\(ycv p (ms0 p) (l.take i)).events<=i
def yqM (w1:World)(n:Nat)(F:List Int)(L:List Cm)(gk:Nat)(v51 v13:Value)(wr:World):Prop:=
 ∃i:Nat,v51= .int .i64 i/\i<=n/\gk=n - i/\XRow (fun g=>w1<=g/\¬v13.ownBlock=some g) wr 40 v13 ((NL F (L.take i)).map evOfC)/\(∀g,v13.ownBlock=some g->w1.heap.size<=g)/\Below w1 w1 wr
theorem ye4 {N:Nat}(F:Nat->Prop)(W:World)(G:Gl Tryz.prog N W)(i:IC)(p:Img)(H:IAt F W i p)(hw:∀x∈p.consts,x.wf)(r:Fa×Int×Int)(hr:yaN p=r)
  (ea:Option Addr)(en ec:Nat)(l:List Ev)(E:XRd (fun j=>j<W) W (.slice ea en ec) l)(hew:∀e∈l,e.v.wf)(hl:l.length<=30):
  Calls Tryz.prog 29 #[.agg #[.slice i.ca i.cn i.cc,.slice i.ka i.kn i.kc,.slice i.na i.nn i.nc,i.pl],.slice ea en ec] W (yo0 W p r.2.2 l):=by
 have Bb:l.length=en:=by obtain⟨a,c,h⟩:=E.slice;cases h;rfl
 obtain⟨w0,Al⟩:∃w0,w0=W.alloc (.cells #[.slice i.ca i.cn i.cc,.slice i.ka i.kn i.kc,.slice i.na i.nn i.nc,i.pl] 28):=⟨_,rfl⟩;have B0:=zba Al;have hB:=zha Al;have NW:=zhd (ykp F w0 i p (H.keep (S:=fun _=>False) (zkb B0) (fun _ _ f=>f)) hw r hr);obtain⟨c0,c1,c2,c3,l0⟩:=zq4 hB;have O:=zh7 B0 E hew hl hw G Bb;have HR:=zhd hr;clear B0 hB H hw hr E hew hl G Bb;go_in;go_wp2_with fail;rw[<-Al];clear Al;refine NW.o.mono ?_;obtain⟨fa,at_,er⟩:=r;dsimp only;rintro e w1 (⟨Au,rfl,H1⟩|⟨rfl,b,v,rfl,H1⟩)
 .have n1:(er==0)=false:=by rw[zna];exact Au
  have n2:(er !=0)=true:=by unfold bne;rw[n1];rfl
  have HN:=zhd Au;have HB:=zhd (O.o.1.trans (H1.o.mono O.o.1.size));clear Au H1;go_wp2_with fail;exact zng (v:=.tuple #[.slice none 0 0,er]) (by simp only[results,Tryz.results29];go_simp) rfl (.inl ⟨HN.o,rfl,HB⟩)
 .obtain⟨K,P,A7,S⟩:=yc6 O.o.2.2.2.2.1 HR.o
  have Bm:= @run_makeMap Tryz.prog;have HK:=zh4 K P A7 S;have Bl:W<w0.heap.size:=l0;obtain⟨mb,Av⟩:∃mb,mb=w1.heap.size:=⟨_,rfl⟩;obtain⟨w5,Ab⟩:∃w5,w5=w1.alloc (.map #[] 0):=⟨_,rfl⟩;have M5:MapAt NM w5 mb (mOf []):=by rw[Av,Ab];exact⟨#[],0,znb _ _,rfl,by simp[mOf]⟩
  have B5:=zba Ab;have Bg:Below W W w5:=O.o.1.trans ((H1.o.2.2.trans (B5.mono H1.o.2.2.size)).mono O.o.1.size);have X5:MX TT (fun q=>W<=q/\¬q=mb) w5 b v (yac p) (ms0 (yac p)):=(H1.o.1.monoZ (fun j hj hl=>⟨(show W<=j by have hj:w0<=j:=hj;omega),by omega⟩)).ext B5;have O5:∀j,MO v b j->W.heap.size<=j/\¬j=mb:=fun j hj=>⟨by have:=H1.o.2.1 j hj;omega,by have:=H1.o.1.lt hj;omega⟩;have A9:W<=mb/\mb<w5.heap.size:=⟨by have:=H1.o.2.2.size;omega,by rw[Ab];simp;omega⟩;have HL:=zh5 M5 Bg X5 O5 A9;clear K P A7 S NW M5 B5 Bg X5 O5 A9 H1 Bl c0 c1 c2 c3 l0;go_wp2_with fail;rw[<-Ab,<-Av];clear Ab Bm Av;go_loopg [27] en (fun gk v27 wr=>yqO w5 mb en l gk v27 wr)
  case atStart=>exact⟨0,[],rfl,znq _,rfl,HL.o.1,(fun a=>⟨fun h=>(by cases h),fun h=>(by simp[ybX]at h)⟩),Keeps.refl _ _⟩
  case round=>
   obtain⟨j,cs,rfl,hj,U,hM,d,hK⟩:=hrel;have J:mb<wr.heap.size:=by obtain⟨es,I,z,_⟩:=hM;exact zlt z
   by_cases hjn:j<en
   .obtain⟨e,he⟩:=yae (l:=l) (k:=j) (by rw[O.o.2.2.2.2.2.2];exact hjn)
    obtain⟨g,A3,vk,vn,vs,la,ln,lc,rfl,y,M,dv,y0,y1,y2,y3,y4,y5,y6,y7,y8,y9,y10⟩:=yc8 O.o.2.1 he;have Q:Below W W wr:=HL.o.2.1.trans (hK.below HL.o.2.1.size (fun q hq e=>by have:=HL.o.2.2.2.2.1;omega));rw[<-Q.cell (p:=⟨g,_,none⟩) M]at y0 y1 y2 y3 y4 y5 y6 y7 y8 y9 y10;have Ag:g<wr:=znj M Q.size;have Br:(j:Int)<(en:Int):=by omega
    have Be:=zhd (show wrap64 ((j:Int)+1)=(j:Int)+1 by have z:=O.o.2.2.2.1;have h2:=O.o.2.2.2.2.2.2;unfold wrap64;omega);have T:l.take (j+1)=l.take j++[e]:=by rw[List.take_add_one,he];rfl
    have HM:=zhd (show en - (j+1)<gk by omega);obtain⟨e0,e1,e2,e3,e4,e5,e6,ex⟩:=e;dsimp only at y0 y1 y2 y3 y4 y5 y6;have V:=yhB (l.take j) ⟨e0,e1,e2,e3,e4,e5,e6,ex⟩;rw[<-T]at V;dsimp only at V;clear dv he y U Q T;by_cases h12:e2=12
    .subst h12
     rw[show((12:Int)==12)=true from rfl,znm]at V;obtain⟨ob,A6,Aq⟩:=MapAt.store hM ylT Tryz.underlying57 e3 true;replace A6:∀X:World,ycU wr mb X->(Instr.mapUpdate 57 (.map (some mb)) (.int .i64 e3) (.bool true)).run Tryz.prog X= .ok () (setBlock X mb ob):=A6;have HH:=zh5 Aq d hK V J;clear hM d hK Aq V;have As:=Be.o;go_upto_region 8 with(fail);refine yab ?_;intro w8 Y;have An:=zha Y;have B8:=zba Y;have Bu:ycU wr mb w8:=by unfold ycU blk;rw[B8.block mb J]
     have Bn:mb<w8.heap.size:=znj J B8.size;have A2:=zhd B8;clear y0 y1 y2 y3 y4 y5 y6 y7 y8 y9 y10 Ag M Y B8 J;obtain⟨x0,x1,x2,x3,x4,x5,x6,x7,x8,x9,x10,xl,_⟩:=yaW An;have Bt:setBlock w8 mb ob=setBlock w8 mb ob:=rfl;go_wp2_with fail;go_roundg (en - (j+1))
     case measure=>exact HM.o
     case rel=>exact⟨j+1,e3::cs,by simp[As],hjn,rfl,HH.o.1 _ (ybI _ _ _ Bn),(fun a=>by rw[HH.o.2.2.2.1,List.mem_append,List.mem_singleton,List.mem_cons,HH.o.2.1 a,or_comm]),(HH.o.2.2.1.trans ((zkb (S:=fun _=>False) A2.o).mono (fun _ _ f=>f.elim)) (fun _ _ e=>e)).trans ((Keeps.refl (fun j=>j=mb) w8).setBlock (b:=mb) (.inl rfl) ob) (fun _ _ e=>e)⟩
    .have Bh:(e2==12)=false:=by rw[zna];exact h12
     rw[Bh,znl]at V;have HH:=zh5 hM d hK V J;clear hM d hK V h12;have As:=Be.o;go_wp2_with fail;go_roundg (en - (j+1))
     case measure=>exact HM.o
     case rel=>exact⟨j+1,cs,by simp[As],hjn,rfl,yaS HH.o.1 (zal),(fun a=>by rw[HH.o.2.2.2.1];exact HH.o.2.1 a),HH.o.2.2.1.trans ((zkb (S:=fun _=>False) (zal)).mono (fun _ _ f=>f.elim)) (fun _ _ e=>e)⟩
   .obtain rfl:j=en:=by omega
    have Bz:¬(j:Int)<j:=by omega
    have hT:l.take j=l:=zmj (by rw[O.o.2.2.2.2.2.2];exact znc _);rw[hT]at d;have X6:MX TT (fun q=>W<=q/\¬q=mb) wr b v (yac p) (ms0 (yac p)):=HL.o.2.2.1.far hK (fun q e h=>(HL.o.2.2.2.1 q h).2 e) (fun q e h=>h.2 e);have B6:Below W W wr:=HL.o.2.1.trans (hK.below HL.o.2.1.size (fun q hq e=>by have:=HL.o.2.2.2.2.1;omega));have H6:=zh5 hM d X6 B6 J;obtain⟨w6,Bk⟩:∃w6,w6=wr:=⟨_,rfl⟩;subst Bk;clear hM d hK U J hj X6 B6 hT;go_wp2_with fail;go_loopg [40] j (fun gk v40 wr=>yqN w6 (fun q=>W<=q/\¬q=mb) (yac p) fa b v j l gk v40 wr)
    case atStart=>exact⟨0,v,rfl,znq _,rfl,H6.o.2.2.1,MK.refl _ _ _,HK.o.2.2.2,znc _⟩
    case round=>
     obtain⟨k,v1,rfl,hk,U,M1,K1,S1,Am⟩:=hrel;have O1:∀q,MO v1 b q->(W.heap.size<=q/\¬q=mb):=fun q hq=>(K1.own q hq).elim (HL.o.2.2.2.1 q) (fun h=>⟨by have:=H6.o.2.2.2.1.size;omega,by have:=H6.o.2.2.2.2;omega⟩);have Q:Below W W wr:=H6.o.2.2.2.1.trans (K1.keeps.below H6.o.2.2.2.1.size (fun q hq e=>by have:=(HL.o.2.2.2.1 q e).1;omega));have Bd:=zlt M1.h;by_cases hkn:k<j
     .obtain⟨e,he⟩:=yae (l:=l) (k:=k) (by rw[O.o.2.2.2.2.2.2];exact hkn)
      obtain⟨g,A3,vk,vn,vs,la,ln,lc,rfl,y,M,dv,y0,y1,y2,y3,y4,y5,y6,y7,y8,y9,y10⟩:=yc8 O.o.2.1 he;rw[<-Q.cell (p:=⟨g,_,none⟩) M]at y0 y1 y2 y3 y4 y5 y6 y7 y8 y9 y10;have Ag:g<wr:=znj M Q.size;have Bq:(k:Int)<(j:Int):=by omega
      have Bp:=zhd (show wrap64 ((k:Int)+1)=(k:Int)+1 by have z:=O.o.2.2.2.1;have h2:=O.o.2.2.2.2.2.2;unfold wrap64;omega);have T:l.take (k+1)=l.take k++[e]:=by rw[List.take_add_one,he];rfl
      have HM:=zhd (show j - (k+1)<gk by omega);have At:=O.o.2.2.1 e (zmg he);have Z:(ycv (yac p) (ms0 (yac p)) (l.take k)).events<=30:=by have z:=O.o.2.2.2.1;have h2:=O.o.2.2.2.2.2.2;omega
      obtain⟨S2,Ar⟩:=S1.apply HK.o.1 HK.o.2.1 HK.o.2.2.1 e At Z;rw[<-yfe,<-T]at S2 Ar;have R:=zh8 M1 K1 S1 O1 Q dv At (zai Z (zai S2 (zai (show(ycv (yac p) (ms0 (yac p)) (l.take (k+1))).events<=k+1 by omega) (zai y T))));clear M1 K1 S1 Am O1 Q he T At Z S2 Ar dv y U;obtain⟨e0,e1,e2,e3,e4,e5,e6,ex⟩:=e;dsimp only at y0 y1 y2 y3 y4 y5 y6;go_upto_region 14 with(fail);refine yab ?_;intro w8 Y;have An:=zha Y;have B8:=zba Y;clear y0 y1 y2 y3 y4 y5 y6 y7 y8 y9 y10 Ag Y Bd;obtain⟨x0,x1,x2,x3,x4,x5,x6,x7,x8,x9,x10,xl,_⟩:=yaW An;have Ap:=R.o.2.2.2.2.1.trans (B8.mono R.o.2.2.2.2.1.size);have AP:=zhd (ygR b v1 (yac p) _ w8 (R.o.1.ext B8) (O.o.2.2.2.2.2.1.below Ap) fa HK.o.1 HK.o.2.1 HK.o.2.2.1 R.o.2.2.1 R.o.2.2.2.2.2.2.2.1 (fun q hq=>⟨by have:=Ap.size;omega,by have z:=H6.o.2.2.2.2;have h2:=R.o.2.1.keeps.size;have h3:=B8.size;omega⟩) e0 e1 e2 e3 e4 e5 e6 ex vk vn vs la ln lc (fun q=>q<W) (R.o.2.2.2.2.2.1.keep (S:=fun _=>False) (zkb Ap) (fun _ _ f=>f)) R.o.2.2.2.2.2.2.1 (fun q hq e=>by have:=(R.o.2.2.2.1 q e).1;have hq:q<W:=hq;omega) _ rfl);have A2:=zhd B8;clear B8 An Ap
      go_wp2_with fail;refine AP.o.mono ?_;rintro e w9 ⟨v9,rfl,H9⟩;clear x0 x1 x2 x3 x4 x5 x6 x7 x8 x9 x10 xl AP;have Bj:=Bp.o;go_wp2_with fail;go_roundg (j - (k+1))
      case measure=>exact HM.o
      case rel=>exact⟨k+1,v9,by simp[Bj],hkn,rfl,by rw[R.o.2.2.2.2.2.2.2.2.2.2.2,yfe];exact H9.o.1,(R.o.2.1.trans (MK.ext A2.o)).trans H9.o.2,R.o.2.2.2.2.2.2.2.2.1,R.o.2.2.2.2.2.2.2.2.2.1⟩
     .obtain rfl:k=j:=by omega
      have By:¬(k:Int)<k:=by omega
      have hT:l.take k=l:=zmj (by rw[O.o.2.2.2.2.2.2];exact znc _);rw[hT]at M1 S1 Am;obtain⟨s,hs⟩:∃s,ycv (yac p) (ms0 (yac p)) l=s:=⟨_,rfl⟩;rw[hs]at M1 S1 Am;have Ba:k<=30:=by have z:=O.o.2.2.2.1;have h2:=O.o.2.2.2.2.2.2;omega
      have J:s.made.length<=700000:=by have z:=S1.bd;omega
      have MD:=zhd (yis b v1 _ s wr M1 (ymA S1) (by omega));have A5:MapAt NM wr mb (mOf cs):=by
       obtain⟨es,I,z,h2⟩:=H6.o.1;exact⟨es,I,(K1.keeps.block mb H6.o.2.2.2.2 (fun e=>(HL.o.2.2.2.1 mb e).2 rfl)).trans z,h2⟩
      have R:=zh5 Q hs S1 J A5;clear M1 K1 S1 Am O1 Q hT hs J U Ba A5 Bd;go_wp2_with fail;refine MD.o.mono ?_;rintro e w7 ⟨r7,rfl,H8⟩;obtain⟨am,cm,rfl⟩:∃a c,r7= .slice a (s.made.map ybh).length c:=H8.o.1.slice;obtain⟨L,hL⟩:∃L,L=s.made.map ybh:=⟨_,rfl⟩;rw[<-hL];obtain⟨n,hn⟩:∃n,L.length=n:=⟨_,rfl⟩;have E7:XRd (fun g=>g<w7) w7 (.slice am n cm) L:=by rw[<-hn,hL];exact H8.o.1.rd (fun g _ h=>h) (fun g M=>H8.o.1.lt M)
      have Bf:=R.o.1.trans (H8.o.2.2.mono R.o.1.size);have A4:=yaS R.o.2.2.2.2 H8.o.2.2;have u:=zh6 E7 Bf A4 hL hn (show n<=700000 by rw[<-hn,hL,zmd];exact R.o.2.2.2.1);rw[hn];clear E7 Bf A4 MD H8 hn hL;go_wp2_with fail;go_loopg [51,13] n (fun gk v51 v13 wr=>yqM w7 n cs L gk v51 v13 wr)
      case atStart=>exact⟨0,rfl,znq _,rfl,XRow.nil _ _ _,(fun g h=>by cases h),znv _ _⟩
      case round=>
       obtain⟨i,rfl,hi,U,hX,hO,hB⟩:=hrel;by_cases hin:i<n
       .obtain⟨c,hc⟩:=yae (l:=L) (k:=i) (by rw[u.o.2.2.2.2.1];exact hin)
        obtain⟨g,A3,vk,vn,vs,la,ln,lc,rfl,y,M,dv,y0,y1,y2,y3,y4,y5,y6,y7,y8⟩:=yoN u.o.1 hc;rw[<-hB.cell (p:=⟨g,_,none⟩) M]at y0 y1 y2 y3 y4 y5 y6 y7 y8;have Ag:g<wr:=znj M hB.size;have Bs:(i:Int)<(n:Int):=by omega
        have A0:=zhd (show wrap64 ((i:Int)+1)=(i:Int)+1 by have:=u.o.2.2.2.2.2;unfold wrap64;omega);have T:L.take (i+1)=L.take i++[c]:=by rw[List.take_add_one,hc];rfl
        have A1:=zhd (show n - (i+1)<gk by omega);have Bc:yaX c=0/\szV c.v<=1073741824:=by
         have hm:=zmg hc;rw[u.o.2.2.2.1]at hm;obtain⟨c0,Bo,rfl⟩:=List.mem_map.1 hm;have A8:=R.o.2.2.1.rk.vs.mds c0 Bo;have Az:=yiH A8.1 A8.2;have:=ycq (x:=(ybh c0).v) ⟨ypT Az.1,Az.2⟩;exact⟨Az.1,by omega⟩
        have D:=zh6 hX hO hB dv T Bc;have J:mb<wr.heap.size:=by
         obtain⟨es,I,z,_⟩:=u.o.2.2.1;exact znj (zlt z) hB.size
        clear hX hO hB dv T Bc hc y U hi;obtain⟨I,B,ca,C,cn,A⟩:=c;dsimp only at y0 y1 y2 y3 y4;go_upto_region 20 with(fail);refine yab ?_;intro w2 Ac;have B2:=zba Ac;have Ai:=zha Ac;have M2:=yaS u.o.2.2.1 (D.o.2.2.1.trans (B2.mono D.o.2.2.1.size));have H2:=zh2 B2 Ai;clear y0 y1 y2 y3 y4 y5 y6 y7 y8 Ag M Ac B2 J;by_cases hk2:I=2
        .subst hk2
         obtain⟨lt,Ax⟩:∃lt,decide (ca∈cs)=lt:=⟨_,rfl⟩;have Bx:=fun X hX=>yhu M2 ca lt Ax X hX;have Ao:=zhd (show ybe cs (⟨2,B,ca,C,cn,A⟩:Cm)=lt by unfold ybe;rw[<-Ax];rfl);clear Ax M2;cases lt with
         |true=>
          obtain⟨x0,x1,x2,x3,x4,x5,x6,x7,x8,xl,_⟩:=yjH Ai;clear Ai;have Aa:=A0.o;go_wp2_with fail;go_roundg (n - (i+1))
          case measure=>exact A1.o
          case rel=>exact⟨i+1,by simp[Aa],hin,rfl,by rw[D.o.2.2.2.2.1,yhW,Ao.o];exact D.o.1.below H2.o.1,D.o.2.1,D.o.2.2.1.trans (H2.o.1.mono D.o.2.2.1.size)⟩
         |false=>
          clear Ai;obtain⟨x0,x1,x2,x3,x4,x5,x6,x7,x8,xl,_⟩:=yjH H2.o.2;have CE:=zhd (ydo (⟨2,B,ca,C,cn,A⟩:Cm) D.o.2.2.2.2.2.1 D.o.2.2.2.2.2.2 vk vn vs la ln lc (fun g=>g<w7) w2 (D.o.2.2.2.1.keep (S:=fun _=>False) (zkb (D.o.2.2.1.trans (H2.o.1.mono D.o.2.2.1.size))) (fun _ _ f=>f)));go_wp2_with fail;refine CE.o.mono ?_;rintro e w3 ⟨uk,un,us,ua,ul,uc,rfl,H3⟩;clear x0 x1 x2 x3 x4 x5 x6 x7 x8 xl CE;obtain⟨va,vl,vc,Ad⟩:=yaL D.o.1;subst Ad;have t:=H2.o.1.trans (H3.o.2.mono H2.o.1.size);obtain⟨ks,Aj,m⟩:=(D.o.1.below t).cells;have Ay:ks.length<=i:=by
           rw[m.1,zmd];exact znf (List.length_filter_le _ _) (by rw[List.length_take];exact Nat.min_le_left _ _)
          have RA:=zhd (Aj.below ((znv w3.heap.size w3).alloc (znc _) (.cells #[(evOfC (⟨2,B,ca,C,cn,A⟩:Cm)).id,(evOfC (⟨2,B,ca,C,cn,A⟩:Cm)).time,(evOfC (⟨2,B,ca,C,cn,A⟩:Cm)).kind,(evOfC (⟨2,B,ca,C,cn,A⟩:Cm)).a,(evOfC (⟨2,B,ca,C,cn,A⟩:Cm)).b,(evOfC (⟨2,B,ca,C,cn,A⟩:Cm)).name,(evOfC (⟨2,B,ca,C,cn,A⟩:Cm)).text,uk,un,us,.slice ua ul uc] 40)));have Ak:=zhd (show(ks.length+1)*128<=140737488355328/\ks.length+1<=maxLen from by have:=u.o.2.2.2.2.2;unfold maxLen;omega);have H4:=zh2 m t;clear Aj m Ay t;have Aa:=A0.o;go_wp2_with (at_builtin;refine ybk (α:=EC) yfP rfl (.tmp 65) (.tmp 68) rfl RA.o (⟨(evOfC (⟨2,B,ca,C,cn,A⟩:Cm)).id,(evOfC (⟨2,B,ca,C,cn,A⟩:Cm)).time,(evOfC (⟨2,B,ca,C,cn,A⟩:Cm)).kind,(evOfC (⟨2,B,ca,C,cn,A⟩:Cm)).a,(evOfC (⟨2,B,ca,C,cn,A⟩:Cm)).b,(evOfC (⟨2,B,ca,C,cn,A⟩:Cm)).name,(evOfC (⟨2,B,ca,C,cn,A⟩:Cm)).text,⟨uk,un,us,ua,ul,uc⟩⟩:EC) rfl rfl (znb _ _) Ak.o.1 Ak.o.2 ?_;intro a1 c1 w6 Ae Af Ah;have HF:=zh3 Ae Af Ah;clear Ae Af Ah);go_roundg (n - (i+1))
          case measure=>exact A1.o
          case rel=>
           have Bi:=D.o.2.2.1.size;have Ac:=H2.o.1.size;have hx:EvF (fun g=>w7<=g/\¬(Value.slice va vl vc).ownBlock=some g) w3 (⟨(evOfC (⟨2,B,ca,C,cn,A⟩:Cm)).id,(evOfC (⟨2,B,ca,C,cn,A⟩:Cm)).time,(evOfC (⟨2,B,ca,C,cn,A⟩:Cm)).kind,(evOfC (⟨2,B,ca,C,cn,A⟩:Cm)).a,(evOfC (⟨2,B,ca,C,cn,A⟩:Cm)).b,(evOfC (⟨2,B,ca,C,cn,A⟩:Cm)).name,(evOfC (⟨2,B,ca,C,cn,A⟩:Cm)).text,⟨uk,un,us,ua,ul,uc⟩⟩:EC) (evOfC (⟨2,B,ca,C,cn,A⟩:Cm)):=⟨rfl,rfl,rfl,rfl,rfl,rfl,rfl,H3.o.1.mono (fun g M _=>⟨(by have M:w2<=g:=M;show w7<=g;omega),fun e=>by have:=D.o.1.lt e;have M:w2<=g:=M;omega⟩)⟩;have AP:=EsRel.app D.o.1 D.o.2.1 D.o.2.2.1 H4.o.2 H4.o.1 hx HF.o.1 HF.o.2.1 HF.o.2.2;exact⟨i+1,by simp[Aa],hin,rfl,by rw[D.o.2.2.2.2.1,yhW,Ao.o,znl,List.map_append];exact AP.1,AP.2.1,AP.2.2⟩
        .have n2:(I==2)=false:=by rw[zna];exact hk2
         have n3:(I !=2)=true:=by unfold bne;rw[n2];rfl
         have Ao:=zhd (show ybe cs (⟨I,B,ca,C,cn,A⟩:Cm)=false by unfold ybe;rw[n2];rfl);clear Ai M2 hk2;obtain⟨x0,x1,x2,x3,x4,x5,x6,x7,x8,xl,_⟩:=yjH H2.o.2;have CE:=zhd (ydo (⟨I,B,ca,C,cn,A⟩:Cm) D.o.2.2.2.2.2.1 D.o.2.2.2.2.2.2 vk vn vs la ln lc (fun g=>g<w7) w2 (D.o.2.2.2.1.keep (S:=fun _=>False) (zkb (D.o.2.2.1.trans (H2.o.1.mono D.o.2.2.1.size))) (fun _ _ f=>f)));go_wp2_with fail;refine CE.o.mono ?_;rintro e w3 ⟨uk,un,us,ua,ul,uc,rfl,H3⟩;clear x0 x1 x2 x3 x4 x5 x6 x7 x8 xl CE;obtain⟨va,vl,vc,Ad⟩:=yaL D.o.1;subst Ad;have t:=H2.o.1.trans (H3.o.2.mono H2.o.1.size);obtain⟨ks,Aj,m⟩:=(D.o.1.below t).cells;have Ay:ks.length<=i:=by
          rw[m.1,zmd];exact znf (List.length_filter_le _ _) (by rw[List.length_take];exact Nat.min_le_left _ _)
         have RA:=zhd (Aj.below ((znv w3.heap.size w3).alloc (znc _) (.cells #[(evOfC (⟨I,B,ca,C,cn,A⟩:Cm)).id,(evOfC (⟨I,B,ca,C,cn,A⟩:Cm)).time,(evOfC (⟨I,B,ca,C,cn,A⟩:Cm)).kind,(evOfC (⟨I,B,ca,C,cn,A⟩:Cm)).a,(evOfC (⟨I,B,ca,C,cn,A⟩:Cm)).b,(evOfC (⟨I,B,ca,C,cn,A⟩:Cm)).name,(evOfC (⟨I,B,ca,C,cn,A⟩:Cm)).text,uk,un,us,.slice ua ul uc] 40)));have Ak:=zhd (show(ks.length+1)*128<=140737488355328/\ks.length+1<=maxLen from by have:=u.o.2.2.2.2.2;unfold maxLen;omega);have H4:=zh2 m t;clear Aj m Ay t;have Aa:=A0.o;go_wp2_with (at_builtin;refine ybk (α:=EC) yfP rfl (.tmp 65) (.tmp 68) rfl RA.o (⟨(evOfC (⟨I,B,ca,C,cn,A⟩:Cm)).id,(evOfC (⟨I,B,ca,C,cn,A⟩:Cm)).time,(evOfC (⟨I,B,ca,C,cn,A⟩:Cm)).kind,(evOfC (⟨I,B,ca,C,cn,A⟩:Cm)).a,(evOfC (⟨I,B,ca,C,cn,A⟩:Cm)).b,(evOfC (⟨I,B,ca,C,cn,A⟩:Cm)).name,(evOfC (⟨I,B,ca,C,cn,A⟩:Cm)).text,⟨uk,un,us,ua,ul,uc⟩⟩:EC) rfl rfl (znb _ _) Ak.o.1 Ak.o.2 ?_;intro a1 c1 w6 Ae Af Ah;have HF:=zh3 Ae Af Ah;clear Ae Af Ah);go_roundg (n - (i+1))
         case measure=>exact A1.o
         case rel=>
          have Bi:=D.o.2.2.1.size;have Ac:=H2.o.1.size;have hx:EvF (fun g=>w7<=g/\¬(Value.slice va vl vc).ownBlock=some g) w3 (⟨(evOfC (⟨I,B,ca,C,cn,A⟩:Cm)).id,(evOfC (⟨I,B,ca,C,cn,A⟩:Cm)).time,(evOfC (⟨I,B,ca,C,cn,A⟩:Cm)).kind,(evOfC (⟨I,B,ca,C,cn,A⟩:Cm)).a,(evOfC (⟨I,B,ca,C,cn,A⟩:Cm)).b,(evOfC (⟨I,B,ca,C,cn,A⟩:Cm)).name,(evOfC (⟨I,B,ca,C,cn,A⟩:Cm)).text,⟨uk,un,us,ua,ul,uc⟩⟩:EC) (evOfC (⟨I,B,ca,C,cn,A⟩:Cm)):=⟨rfl,rfl,rfl,rfl,rfl,rfl,rfl,H3.o.1.mono (fun g M _=>⟨(by have M:w2<=g:=M;show w7<=g;omega),fun e=>by have:=D.o.1.lt e;have M:w2<=g:=M;omega⟩)⟩;have AP:=EsRel.app D.o.1 D.o.2.1 D.o.2.2.1 H4.o.2 H4.o.1 hx HF.o.1 HF.o.2.1 HF.o.2.2;exact⟨i+1,by simp[Aa],hin,rfl,by rw[D.o.2.2.2.2.1,yhW,Ao.o,znl,List.map_append];exact AP.1,AP.2.1,AP.2.2⟩
       .obtain rfl:i=n:=by omega
        have Bv:¬(i:Int)<i:=by omega
        have hT:L.take i=L:=zmj (by rw[u.o.2.2.2.2.1];exact znc _);rw[hT]at hX;obtain⟨va,vl,vc,Ad⟩:=yaL hX;subst Ad;have D:=zh3 (hX.mono (G:=fun g=>W<=g) (fun g h _=>by have:=u.o.2.1.size;have z:=h.1;omega)) (fun g M=>znf u.o.2.1.size (hO g M)) (u.o.2.1.trans (hB.mono u.o.2.1.size));have hq:(NL cs L).map evOfC=yaw (yac p) l:=by
         rw[u.o.2.2.2.1];unfold yaw;rw[R.o.2.1,<-ylg H6.o.2.1];unfold NL;rw[List.filter_map,List.map_map]
         congr 1
         funext c
         exact yff c
        have HQ:=zhd hq;clear hX hO hB U hT hi hq;go_wp2_with fail;exact zng (v:=.tuple #[.slice va vl vc,.int .i64 0]) (by simp only[results,Tryz.results29];go_simp) rfl (.inr ⟨rfl,_,rfl,zhd ⟨by rw[<-HQ.o];exact D.o.1,D.o.2⟩⟩)
end Go.Proofs.YtpagmlndgblhhaaGreatDoor
