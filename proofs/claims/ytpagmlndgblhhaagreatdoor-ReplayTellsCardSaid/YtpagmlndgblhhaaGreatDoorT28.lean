/- Parts of the proof: what the functions and the plain laws give that later parts lean on. Conditions: none beyond those that each theorem names. -/
import Derived.Test.YtpagmlndgblhhaaGreatDoorT27
set_option maxRecDepth 100000
set_option maxHeartbeats 8000000
namespace Go.Proofs.YtpagmlndgblhhaaGreatDoor
open Go.RowKit Go.Own Go.Own.MapTy Go.Va Go.Sort
open Go.Own.Cells (sz enc)
theorem yhp (n:Nat)(IH:∀(x:Val),x.parts<=n->∀(b:Nat) (d left:Int) (c:VC) (F:Nat->Prop) (w:World),LX w b left->CF F w c x->¬F b->0<=left->left<=400->0<=d->d<=100->
   Calls Tryz.prog 65 #[.agg #[c.kind,c.n,c.s,.slice c.la c.ln c.lc],d,.pointer (some ⟨b,0,none⟩)] w (ynI w b (fitV d x left)))
  (x:Val)(hx:x.parts<=n+1)(b:Nat)(d left:Int)(ck cn:Int)(cs:ByteArray)(la:Option Addr)(ln lc:Nat)(F:Nat->Prop)(w:World)(H:LX w b left)(C:CF F w ⟨ck,cn,cs,la,ln,lc⟩ x)(hF:¬F b)(h0:0<=left)(h4:left<=400)(hd0:0<=d)(hd:d<=100)(r:Bool×Int)(hr:fitV d x left=r):
  Calls Tryz.prog 65 #[.agg #[ck,cn,cs,.slice la ln lc],d,.pointer (some ⟨b,0,none⟩)] w (ynI w b r):=by
 rw[ynr]at hr;have HI:=zhd IH;have T:cs=x.txt:=C.s;rw[<-T]at hr;have b0:=zlt H;have c0:=H.c;have f0:∀o,w.frozen? ⟨b,o,none⟩=false:=fun o=>zfr H o;obtain⟨I,J,B⟩:=C.l.elems;dsimp only at I J B;have Ai:IntKind.i64.wrap (left - 1)=left - 1:=zmk _ (by omega);have Ah:IntKind.i64.wrap (d+1)=d+1:=zmk _ (by omega);have Y:=zhd I;have Ad:ln<=9223372036854775807:=by unfold maxLen at J;omega
 have HE:=zhd B;have Ac:¬w.heap.size=b:=by omega
 have W:¬b=w.heap.size:=by omega
 have E:=zh2 (H.set (left - 1)) (Keeps.setCell (S:=fun j=>j=b) (p:=⟨b,0,none⟩) (Keeps.refl _ w) (.inl rfl) (.int .i64 (left - 1)));clear IH C T H I J B;go_in;have t:(decide (left - 1<0)||(decide (12<d)||decide (1100<cs.size)))=true\/(decide (left - 1<0)=false/\decide (12<d)=false/\decide (1100<cs.size)=false):=by
  cases decide (left - 1<0)<;>cases decide (12<d)<;>cases decide (1100<cs.size)<;>simp
 rcases t with O|⟨q,m,P⟩
 .rw[O]at hr
  simp only[znm]at hr;subst hr;have KA:∀(X:World) (o:Obj),Keeps (fun j=>j=b) X (X.alloc o):=fun X o=>(Keeps.refl _ _).alloc _;cases q:decide (left - 1<0)with
  |true=>
   clear O;go_wp2;go_ret;exact⟨rfl,zhd ⟨E.o.1.keep (S:=fun _=>False) ((Keeps.refl _ _).alloc _) (fun f=>f),E.o.2.alloc _⟩⟩
  |false=>
   cases m:decide (12<d)with
   |true=>
    clear O;go_wp2;go_ret;exact⟨rfl,zhd ⟨E.o.1.keep (S:=fun _=>False) ((Keeps.refl _ _).alloc _) (fun f=>f),E.o.2.alloc _⟩⟩
   |false=>
    have P:decide (1100<cs.size)=true:=by rw[q,m]at O;simpa using O
    have h4:(1100:Int)<cs.size:=by have:=znx P;omega
    clear O P;go_wp2;go_ret;exact⟨rfl,zhd ⟨E.o.1.keep (S:=fun _=>False) ((Keeps.refl _ _).alloc _) (fun f=>f),E.o.2.alloc _⟩⟩
 .rw[q,m,P]at hr
  simp only[Bool.or_self,znl]at hr;have h5:¬(1100:Int)<cs.size:=by have:=zny P;omega
  have h6:0<=left - 1:=by have:=zny q;omega
  have hl:=zhd hr;clear hr P;go_wp2_with fail;obtain⟨w1,A⟩:∃w1,w1=(w.setCell ⟨b,0,none⟩ (.int .i64 (left - 1))).alloc (.cells #[ck,cn,cs,.slice la ln lc] 38):=⟨_,rfl⟩;have X1:LX w1 b (left - 1):=by rw[A];exact E.o.1.keep (S:=fun _=>False) ((Keeps.refl _ _).alloc _) (fun f=>f)
  have K1:Keeps (fun j=>j=b) w w1:=by rw[A];exact E.o.2.alloc _
  rw[<-A];have H1:=zh2 X1 K1;clear A X1 K1 c0 f0 Ac W;go_loopg [31] (x.list.length) (fun gk v31 wr=>yqp w b (d+1) x.list r gk v31 wr)
  case atStart=>exact⟨0,_,rfl,znq _,rfl,H1.o.1,H1.o.2,hl.o,h6,by omega⟩
  case round=>
   obtain⟨i,M,rfl,hi,K,a,L,Q,Aa,U⟩:=hrel;by_cases hin:i<ln
   .obtain⟨y,G⟩:=yac (l:=x.list) (k:=i) (by have:=Y.o;omega)
    obtain⟨g,Af,rfl,Ab,hg,B⟩:=HE.o.resolve_left (fun e=>by rw[e]at G;simp at G);obtain⟨N,hC,q0,q1,q2,q3⟩:=B i y G;have z:¬g=b:=fun e=>hF (e▸Ab);have Aj:g<wr:=by have:=L.size;omega
    rw[<-L.cell (p:=⟨g,_,none⟩) hg z]at q0 q1 q2 q3;have R:x.list.drop i=y::x.list.drop (i+1):=by
     rw[znr (zge G).1,(zge G).2]
    rw[R,yet]at Q;have u:y.parts<=n:=by
     have:=Val.parts_lt (v:=x) (zmg G);omega
    have Ae:(i:Int)<ln:=by omega
    have Ag:IntKind.i64.wrap ((i:Int)+1)=(i:Int)+1:=zmk _ (by omega);have CA:=zhd (HI.o y u b (d+1) M N F _ (a.keep (S:=fun _=>False) ((Keeps.refl _ _).alloc (.cells #[N.kind,N.n,N.s,.slice N.la N.ln N.lc] 38)) (fun f=>f)) ((hC.keep L (fun g h e=>hF (e▸h))).keep (S:=fun _=>False) ((Keeps.refl _ _).alloc _) (fun _ _ f=>f)) hF Aa U (by omega) (by have:=zny m;omega));have V:=yfz y (d+1) M U;generalize fitV (d+1) y M=fv at*;have D:=zh4 Q K L V;clear Q K L V hC a R G B;go_wp2_with fail;refine CA.o.mono ?_;rintro e w5 ⟨rfl,H5⟩;have K5:Keeps (fun j=>j=b) w w5:=(D.o.2.2.1.alloc _).trans H5.o.2 (fun _ _ e=>e);have Z:=zhd K5;clear K5 CA;cases hfv:fv.1 with
    |false=>
     have hr:=D.o.1;rw[hfv]at hr;simp only[znl]at hr;subst hr;go_wp2;go_ret;exact⟨rfl,zhd ⟨H5.o.1,Z.o⟩⟩
    |true=>
     have hr:=D.o.1;rw[hfv]at hr;simp only[znm]at hr;have HR:=zhd hr;clear hr;go_wp2_with fail;go_roundg (x.list.length - (i+1))
     case measure=>have:=D.o.2.1;have:=Y.o;omega
     case rel=>exact⟨i+1,fv.2,by simp,by have:=Y.o;omega,rfl,H5.o.1,Z.o,HR.o,D.o.2.2.2.2 hfv,D.o.2.2.2.1⟩
   .obtain rfl:i=ln:=by have:=Y.o;omega
    rw[zns (by have:=Y.o;omega),yip]at Q;have D:=zh2 a L;subst Q;clear a L K;go_wp2;go_ret;exact⟨rfl,zhd ⟨D.o.1,D.o.2⟩⟩
theorem ydi:∀(n:Nat) (x:Val),x.parts<=n->∀(b:Nat) (d left:Int) (c:VC) (F:Nat->Prop) (w:World),LX w b left->CF F w c x->¬F b->0<=left->left<=400->0<=d->d<=100->
  Calls Tryz.prog 65 #[.agg #[c.kind,c.n,c.s,.slice c.la c.ln c.lc],d,.pointer (some ⟨b,0,none⟩)] w (ynI w b (fitV d x left))
 |0,x,hx,_,_,_,_,_,_,_,_,_,_,_,_,_=>by have:=x.parts_pos;omega
 |n+1,x,hx,b,d,left,⟨ck,cn,cs,la,ln,lc⟩,F,w,H,C,hF,h0,h4,hd0,hd=>yhp n (fun y hy=>ydi n y hy) x hx b d left ck cn cs la ln lc F w H C hF h0 h4 hd0 hd _ rfl
structure SmF (p:Img)(l:List Ev):Prop where
 code:p.code.length<=40
 len:l.length<=20
 consts:∀x∈p.consts,x.all (fun _ _ s=>s.size<=1100)
 evs:∀e∈l,e.v.all (fun _ _ s=>s.size<=1100)
def yoF (p:Img)(l:List Ev)(w:World)(e:Ending)(w':World):Prop:=∃r:Bool,e= .returned (.bool r)/\Hid ((r=true->SmF p l)/\Below w w w')
def Sm1 (w1:World)(b:Nat)(l:List Val)(gk:Nat)(v36:Value)(wr:World):Prop:=
 ∃(i:Nat) (cur:Int),v36= .int .i64 i/\i<=l.length/\gk=l.length - i/\LX wr b cur/\Keeps (fun j=>j=b) w1 wr/\0<=cur/\cur<=400/\∀x∈l.take i,x.all (fun _ _ s=>s.size<=1100)
def Sm2 (w1:World)(b:Nat)(l:List Ev)(gk:Nat)(v46:Value)(wr:World):Prop:=
 ∃(i:Nat) (cur:Int),v46= .int .i64 i/\i<=l.length/\gk=l.length - i/\LX wr b cur/\Keeps (fun j=>j=b) w1 wr/\0<=cur/\cur<=400/\∀e∈l.take i,e.v.all (fun _ _ s=>s.size<=1100)
theorem yhX {α:Type}{P:α->Prop}{l:List α}{i:Nat}{x:α}(h:∀y∈l.take i,P y)(hx:l[i]? =some x)(hp:P x):∀y∈l.take (i+1),P y:=fun y A=>by
 rw[List.take_add_one,hx]at A;rcases List.mem_append.1 A with A|A
 .exact h y A
 .simp at A
  rw[A];exact hp
theorem ygR (F:Nat->Prop)(w:World)(i:IC)(p:Img)(H:IAt F w i p)(G:Nat->Prop)(ea:Option Addr)(en ec:Nat)(l:List Ev)(E:XRd G w (.slice ea en ec) l):
  Calls Tryz.prog 24 #[.agg #[.slice i.ca i.cn i.cc,.slice i.ka i.kn i.kc,.slice i.na i.nn i.nc,i.pl],.slice ea en ec] w (yoF p l w):=by
 obtain⟨h1,h2,h3⟩:=H.lens;have h4:en=l.length:=by obtain⟨a,c,h⟩:=E.slice;cases h;rfl
 have hk:=H.consts.elems.2.2;have hn:=H.names.elems.2.2;obtain⟨ca,cn,cc,ka,kn,kc,na,nn,nc,pl⟩:=i;dsimp only at h1 h2 h3 hk hn;have HE:=zh3 hk hn E;have L:=zh4 h1 h2 h3 h4;clear H h1 h2 h3 hk hn h4 E;dsimp only;go_in;by_cases g1:40<cn
 .have e1:(40:Int)<cn:=by omega
  clear g1;go_wp2;go_ret;exact⟨false,rfl,zhd ⟨fun h=>(by cases h),zal⟩⟩
 .have e1:¬(40:Int)<cn:=by omega
  by_cases g2:20<kn
  .have e2:(20:Int)<kn:=by omega
   clear g1 g2;go_wp2;go_ret;exact⟨false,rfl,zhd ⟨fun h=>(by cases h),zal⟩⟩
  .have e2:¬(20:Int)<kn:=by omega
   by_cases g3:20<nn
   .have e3:(20:Int)<nn:=by omega
    clear g1 g2 g3;go_wp2;go_ret;exact⟨false,rfl,zhd ⟨fun h=>(by cases h),zal⟩⟩
   .have e3:¬(20:Int)<nn:=by omega
    by_cases g4:20<en
    .have e4:(20:Int)<en:=by omega
     clear g1 g2 g3 g4;go_wp2;go_ret;exact⟨false,rfl,zhd ⟨fun h=>(by cases h),zal⟩⟩
    .have e4:¬(20:Int)<en:=by omega
     have HG:=zh4 g1 g2 g3 g4;have An:kn<=20:=by omega
     have Am:nn<=20:=by omega
     have Ao:en<=20:=by omega
     clear g1 g2 g3 g4;go_wp2_with fail;obtain⟨w1,P⟩:∃w1,w1=(w.alloc (.cells #[.slice ca cn cc,.slice ka kn kc,.slice na nn nc,pl] 28)).alloc (.cells #[.int .i64 100] 3):=⟨_,rfl⟩;have B1:Below w w w1:=by rw[P];exact(zal).alloc (by simp) _
     have X1:LX w1 (w.heap.size+1) 100:=by rw[P];exact yar
     have Ab:w1.heap[w.heap.size]? =some (.cells #[.slice ca cn cc,.slice ka kn kc,.slice na nn nc,pl] 28 (0,0)):=by rw[P];exact yaG
     rw[<-P];have q:=zh3 B1 X1 Ab;clear P B1 X1 Ab;go_loopg [36] (p.consts.length) (fun gk v36 wr=>Sm1 w1 (w.heap.size+1) p.consts gk v36 wr)
     case atStart=>exact⟨0,100,rfl,znq _,rfl,q.o.2.1,Keeps.refl _ _,by decide,by decide,fun x h=>by simp at h⟩
     case round=>
      obtain⟨i,X,rfl,hi,I,r,W,U,M,A⟩:=hrel;have D:Below w w wr:=q.o.1.trans (W.below (by have:=zlt q.o.2.2;omega) (fun j hj e=>by omega));by_cases hin:i<kn
      .obtain⟨y,hy⟩:=yac (l:=p.consts) (k:=i) (by have:=L.o.2.1;omega)
       obtain⟨g,B,rfl,Ac,hg,T⟩:=HE.o.1.resolve_left (fun e=>by rw[e]at hy;simp at hy);obtain⟨O,hC,q0,q1,q2,q3⟩:=T i y hy;have Aa:g<wr:=by have:=D.size;omega
       rw[<-D.cell (p:=⟨g,_,none⟩) hg]at q0 q1 q2 q3;have Ak:(i:Int)<kn:=by omega
       have Ag:IntKind.i64.wrap ((i:Int)+1)=(i:Int)+1:=zmk _ (by omega);have CA:=zhd (ydi _ y (znc _) (w.heap.size+1) 0 X O (fun j=>j<w) _ (r.keep (S:=fun _=>False) ((Keeps.refl _ _).alloc (.cells #[O.kind,O.n,O.s,.slice O.la O.ln O.lc] 38)) (fun f=>f)) (((hC.mono (G:=fun j=>j<w) (fun g _ hl=>hl)).keep (S:=fun _=>False) (zkb D) (fun _ _ f=>f)).keep (S:=fun _=>False) ((Keeps.refl _ _).alloc _) (fun _ _ f=>f)) (by omega) U M (by decide) (by decide));have V:=yfz y 0 X M;have Q:=yfy y 0 X;generalize fitV 0 y X=fv at*;have J:=zh7 I W V D A hy Q;clear I W V hC r hy T D A Q;go_wp2_with fail;refine CA.o.mono ?_;rintro e w5 ⟨rfl,H5⟩;have K5:=(J.o.2.1.alloc (.cells #[O.kind,O.n,O.s,.slice O.la O.ln O.lc] 38)).trans H5.o.2 (fun _ _ e=>e);have Z:=zhd K5;clear K5 CA;cases hfv:fv.1 with
       |false=>
        clear hfv;go_wp2;go_ret;exact⟨false,rfl,zhd ⟨fun h=>(by cases h),q.o.1.trans (Z.o.below (by have:=zlt q.o.2.2;omega) (fun j hj e=>by omega))⟩⟩
       |true=>
        have b:=zhd hfv;clear hfv;go_wp2_with fail;go_roundg (p.consts.length - (i+1))
        case measure=>have:=J.o.1;have:=L.o.2.1;omega
        case rel=>exact⟨i+1,fv.2,by simp,by have:=L.o.2.1;omega,rfl,H5.o.1,Z.o,J.o.2.2.1.2 b.o,J.o.2.2.1.1,yhX J.o.2.2.2.2.1 J.o.2.2.2.2.2.1 (J.o.2.2.2.2.2.2 b.o)⟩
      .obtain rfl:i=kn:=by have:=L.o.2.1;omega
       rw[zmj (by have:=L.o.2.1;omega)]at A;obtain⟨wo,rfl⟩:∃wo:World,wo=wr:=⟨_,rfl⟩;have d:=zh6 A D W r U M;clear A D W r U M I;go_wp2_with fail;go_loopg [46] (l.length) (fun gk v46 wr=>Sm2 wo (w.heap.size+1) l gk v46 wr)
       case atStart=>exact⟨0,X,rfl,znq _,rfl,d.o.2.2.2.1,Keeps.refl _ _,d.o.2.2.2.2.1,d.o.2.2.2.2.2,fun x h=>by simp at h⟩
       case round=>
        obtain⟨j,N,rfl,hj,I,r,W,U,M,A⟩:=hrel;have D:Below w w wr:=d.o.2.1.trans (W.below (by have:=zlt q.o.2.2;have:=d.o.2.2.1.size;omega) (fun j hj e=>by omega));by_cases hjn:j<en
        .obtain⟨ev,t⟩:=yac (l:=l) (k:=j) (by have:=L.o.2.2.2;omega)
         obtain⟨g,B,⟨z0,z1,z2,z3,z4,z5,z6,⟨zk,zn,zs,za,zl,zc⟩⟩,rfl,Ac,hg,hrel,C⟩:=HE.o.2.2.at_ t;have Aa:g<wr:=by have:=D.size;omega
         have q0:w.cell? ⟨g,B+j*11,none⟩=some (.int .i64 z0):=C 0 _ rfl;have q1:w.cell? ⟨g,B+j*11+1,none⟩=some (.int .i64 z1):=C 1 _ rfl;have q2:w.cell? ⟨g,B+j*11+2,none⟩=some (.int .i64 z2):=C 2 _ rfl;have q3:w.cell? ⟨g,B+j*11+3,none⟩=some (.int .i64 z3):=C 3 _ rfl;have q4:w.cell? ⟨g,B+j*11+4,none⟩=some (.int .i64 z4):=C 4 _ rfl;have q5:w.cell? ⟨g,B+j*11+5,none⟩=some (.string z5):=C 5 _ rfl;have q6:w.cell? ⟨g,B+j*11+6,none⟩=some (.string z6):=C 6 _ rfl;have q7:w.cell? ⟨g,B+j*11+7,none⟩=some (.int .i64 zk):=C 7 _ rfl;have q8:w.cell? ⟨g,B+j*11+8,none⟩=some (.int .i64 zn):=C 8 _ rfl;have q9:w.cell? ⟨g,B+j*11+9,none⟩=some (.string zs):=C 9 _ rfl;have Ae:w.cell? ⟨g,B+j*11+10,none⟩=some (.slice za zl zc):=C 10 _ rfl;rw[<-D.cell (p:=⟨g,_,none⟩) hg]at q0 q1 q2 q3 q4 q5 q6 q7 q8 q9 Ae;have Aj:(j:Int)<en:=by omega
         have Ag:IntKind.i64.wrap ((j:Int)+1)=(j:Int)+1:=zmk _ (by omega);have R:EvF G w ⟨z0,z1,z2,z3,z4,z5,z6,⟨zk,zn,zs,za,zl,zc⟩⟩ ev:=hrel;have CA:=zhd (ydi _ ev.v (znc _) (w.heap.size+1) 0 N ⟨zk,zn,zs,za,zl,zc⟩ (fun j=>j<w) _ (r.keep (S:=fun _=>False) ((Keeps.refl _ _).alloc (.cells #[z0,z1,z2,z3,z4,z5,z6,zk,zn,zs,.slice za zl zc] 40)) (fun f=>f)) (((R.v.mono (G:=fun j=>j<w) (fun g _ hl=>hl)).keep (S:=fun _=>False) (zkb D) (fun _ _ f=>f)).keep (S:=fun _=>False) ((Keeps.refl _ _).alloc _) (fun _ _ f=>f)) (by omega) U M (by decide) (by decide));have V:=yfz ev.v 0 N M;have Q:=yfy ev.v 0 N;generalize fitV 0 ev.v N=fv at*;have J:=zh7 I W V D A t Q;clear I W V hrel R r t C D A Q;have Ad:∀W',Keeps (fun j=>j=w+1) wo W'->Below w w W':=fun W' K=>d.o.2.1.trans (K.below (by have:=zlt q.o.2.2;have:=d.o.2.2.1.size;omega) (fun j hj e=>by omega));have z:=zhd Ad;clear Ad;by_cases y1:(100:Int)<z5.size
         .have _u:=trivial
          go_wp2;go_ret;exact⟨false,rfl,zhd ⟨fun h=>(by cases h),z.o _ (J.o.2.1.alloc _)⟩⟩
         .by_cases y2:(200:Int)<z6.size
          .have _u:=trivial
           go_wp2;go_ret;exact⟨false,rfl,zhd ⟨fun h=>(by cases h),z.o _ (J.o.2.1.alloc _)⟩⟩
          .have _u:=trivial
           go_wp2_with fail;refine CA.o.mono ?_;rintro e w5 ⟨rfl,H5⟩;have Z:=zhd ((J.o.2.1.alloc (.cells #[z0,z1,z2,z3,z4,z5,z6,zk,zn,zs,.slice za zl zc] 40)).trans H5.o.2 (fun _ _ e=>e));clear CA;cases hfv:fv.1 with
           |false=>
            clear hfv;go_wp2;go_ret;exact⟨false,rfl,zhd ⟨fun h=>(by cases h),z.o _ Z.o⟩⟩
           |true=>
            have b:=zhd hfv;clear hfv;go_wp2_with fail;go_roundg (l.length - (j+1))
            case measure=>have:=J.o.1;have:=L.o.2.2.2;omega
            case rel=>exact⟨j+1,fv.2,by simp,by have:=L.o.2.2.2;omega,rfl,H5.o.1,Z.o,J.o.2.2.1.2 b.o,J.o.2.2.1.1,yhX J.o.2.2.2.2.1 J.o.2.2.2.2.2.1 (J.o.2.2.2.2.2.2 b.o)⟩
        .obtain rfl:j=en:=by have:=L.o.2.2.2;omega
         rw[zmj (by have:=L.o.2.2.2;omega)]at A;have u:=(W.block w (znj (zlt q.o.2.2) d.o.2.2.1.size) (by omega)).trans ((d.o.2.2.1.block w (zlt q.o.2.2) (by omega)).trans q.o.2.2);have q2:=zca u 2 rfl;have Al:=zlt u;obtain⟨wp,rfl⟩:∃wp:World,wp=wr:=⟨_,rfl⟩;have Y:=zh2 A D;clear A D W r I u;go_wp2_with fail;go_loopg [70] (p.names.length) (fun gk v70 wr=>∃j:Nat,v70= .int .i64 j/\j<=p.names.length/\gk=p.names.length - j/\wr=wp)
         case atStart=>exact⟨0,rfl,znq _,rfl,rfl⟩
         case round=>
          obtain⟨m,rfl,hm,I,Af⟩:=hrel;subst Af;by_cases hmn:m<nn
          .obtain⟨x,hx⟩:=yac (l:=p.names) (k:=m) (by have:=L.o.2.2.1;omega)
           obtain⟨g,B,ha,T⟩:=HE.o.2.1;obtain⟨Ac,hg,C⟩:=T m x hx;have ha:=ha.resolve_right (fun e=>by rw[e]at hx;simp at hx);subst ha;have m0:=C 0 _ rfl;rw[show B+(m*sz ByteArray+0)=B+m from by simp[Cells.sz]]at m0;rw[<-Y.o.2.cell (p:=⟨g,_,none⟩) hg]at m0;have Aa:g<wr:=by have:=Y.o.2.size;omega
           have Ai:(m:Int)<nn:=by omega
           have Ah:=zhd I;clear I hx C T;by_cases h5:(100:Int)<x.size
           .go_wp2
            go_ret;exact⟨false,rfl,zhd ⟨fun h=>(by cases h),Y.o.2⟩⟩
           .go_wp2_with fail
            go_roundg (p.names.length - (m+1))
            case measure=>have:=Ah.o;have:=L.o.2.2.1;omega
            case rel=>exact⟨m+1,by simp,by have:=L.o.2.2.1;omega,rfl,rfl⟩
          .obtain rfl:m=nn:=by have:=L.o.2.2.1;omega
           clear I;go_wp2;go_ret;exact⟨true,rfl,zhd ⟨fun _=>⟨by have:=L.o.1;have:=HG.o.1;omega,by have:=L.o.2.2.2;omega,d.o.1,Y.o.1⟩,Y.o.2⟩⟩
end Go.Proofs.YtpagmlndgblhhaaGreatDoor
namespace Go.Va
open Go.Own Go.RowKit
open Go.Proofs.YtpagmlndgblhhaaGreatDoor
theorem ykI {p:Img}{fa:Fa}(K:Known p fa)(P:Pk p)(hsp:fa.span<=p.code.length+1):∀(l:List Ev) (r:RP),St p fa r.m->(∀e∈l,e.v.wf)->r.m.events+(ya8 l).length<=30->r.next<=r.m.made.length->
  St p fa (yan p r l).m/\(yan p r l).m.events<=r.m.events+(ya8 l).length/\(yan p r l).next<=(yan p r l).m.made.length/\(yan p r l).seen<=r.seen+l.length
 |[],r,S,_,_,hn=>⟨S,Nat.le_add_right _ _,hn,znc _⟩
 |e::l,r,S,hw,he,hn=>by
  have ho:ya8 (e::l)=ya8 [e]++ya8 l:=yaQ [e] l;rw[ho,znk]at he|-;by_cases h0:r.err=0
  .rw[ybU h0]
   obtain⟨F,H,D,G⟩:=ymv K P hsp S (hw e zmf) (by omega) hn;obtain⟨E,B,C,A⟩:=ykI K P hsp l {(ybK p r e).2 with err:=(ybK p r e).1} F (fun x hx=>hw x (zme _ hx)) (by show(ybK p r e).2.m.events+_<=30;omega) D;have B:(yan p {(ybK p r e).2 with err:=(ybK p r e).1} l).m.events<=(ybK p r e).2.m.events+(ya8 l).length:=B;have A:(yan p {(ybK p r e).2 with err:=(ybK p r e).1} l).seen<=(ybK p r e).2.seen+l.length:=A;rw[List.length_cons];exact⟨E,by omega,C,by omega⟩
  .rw[ybV h0]
   exact⟨S,Nat.le_add_right _ _,hn,Nat.le_add_right _ _⟩
end Go.Va
namespace Go.Proofs.YtpagmlndgblhhaaGreatDoor
open Go.RowKit Go.Own Go.Own.MapTy Go.Va Go.Sort
open Go.Own.Cells (sz enc)
set_option linter.unusedVariables false
set_option linter.unusedSimpArgs false
theorem BoxI.all5 {w:World}{b:Nat}{i:IC}(h:BoxI w b i):w.cell? ⟨b,0,none⟩=some (.slice i.ca i.cn i.cc)/\w.cell? ⟨b,1,none⟩=some (.slice i.ka i.kn i.kc)/\w.cell? ⟨b,2,none⟩=some (.slice i.na i.nn i.nc)/\w.cell? ⟨b,3,none⟩=some (.int .i64 i.pl)/\b<w:=⟨h.c0,h.c1,h.c2,h.c3,h.lt⟩
structure LwR (p:Img)(fa:Fa)(N0 rb b mb:Nat)(v:MV)(r:RP)(w:World):Prop where
 rx:RPX TR (fun j=>N0<=j) w rb b mb v p r
 own:∀j,RO rb b mb v j->N0<=j
 st:St p fa r.m
 nx:r.next<=r.m.made.length
theorem LwR.pending {p:Img}{fa:Fa}{N0 rb b mb:Nat}{v:MV}{r:RP}{w:World}(L:LwR p fa N0 rb b mb v r w)(hev:r.m.events<=30):Calls Tryz.prog 12 #[.pointer (some ⟨rb,0,none⟩)] w (yiA w ((ybJ r).map yaD)):=by
 cases h:(r.err !=0||r.closed)with
 |true=>exact yfY rb b mb v p r w L.rx h
 |false=>
  obtain⟨B,A⟩:=Bool.or_eq_false_iff.1 h;exact ydu rb b mb v p r w L.rx (by simpa using B) A (ykk L.st) (by have:=L.st.bd;omega) L.nx
end Go.Proofs.YtpagmlndgblhhaaGreatDoor
namespace Go.Va
open Go.Own Go.RowKit
open Go.Proofs.YtpagmlndgblhhaaGreatDoor
theorem ymf {m:Int}{cs:List Cm}{i:Int}{b:BK}(h:((i==m)||b.over)=true):yiu m cs i b=b:=by
 cases cs with
 |nil=>rfl
 |cons c r=>rw[yiu,h];rfl
theorem yme {p:Img}{fa:Fa}{n t:Nat}{F:List Int}{c:Cm}{cs rest:List Cm}{b fin:BK}{m j:Int}(CI:CmI p fa n t F (c::cs) rest b)(hfn:yiu m (c::cs) j b=fin)(hov:((j==m)||b.over)=false)(hn:n<=30)(ht:t<=400000){w:Bool}(hw:((c.kind !=2)|| !yck b.list c.a)=w):CmI p fa n t F cs rest (bif w then ycu b (evW c)else b)/\yiu m cs (j+1) (bif w then ycu b (evW c)else b)=fin:=by
 have A:=CI.step hn ht (Bool.or_eq_false_iff.1 hov).2;rw[hw]at A;rw[yiu,hov,znl,hw]at hfn;exact⟨A,hfn⟩
end Go.Va
namespace Go.Proofs.YtpagmlndgblhhaaGreatDoor
open Go.RowKit Go.Own Go.Own.MapTy Go.Va Go.Sort
open Go.Own.Cells (sz enc)
set_option linter.unusedVariables false
set_option linter.unusedSimpArgs false
theorem RPX.far {tr:TypeId}{Z S:Nat->Prop}{W W':World}{rb b mb:Nat}{v:MV}{p:Img}{r:RP}(R:RPX tr Z W rb b mb v p r)(K:Keeps S W W')(h1:∀j,S j->¬RO rb b mb v j)(h2:∀j,S j->¬Z j):RPX tr Z W' rb b mb v p r:=by
 refine⟨(K.block rb (zlt R.h) (fun e=>h1 rb e (.inl rfl))).trans R.h,R.mx.far K (fun j e h=>h1 j e (.inr (.inr h))) (fun j e h=>h2 j e h.1),?_,R.ne,R.o1,R.o2⟩;obtain⟨C,D,A,B⟩:=R.fm;exact⟨C,D,(K.block mb (zlt A) (fun e=>h1 mb e (.inr (.inl rfl)))).trans A,B⟩
theorem ykq {l:List Ev}{n:Nat}(hn:l.length=n)(h0:n≠0):∃e,l[n - 1]? =some e/\yhh l=e.time:=by
 obtain⟨e,A⟩:=yac (l:=l) (k:=n - 1) (by omega);refine⟨e,A,?_⟩;unfold yhh;rw[List.getLast?_eq_getElem?,hn,A];rfl
def yoU (Z:Nat->Prop)(W:World)(kb:Nat)(i:IC)(lv:Value)(p:Img)(bk:BK)(e:Ending)(w':World):Prop:=e= .returned (.bool true)/\Hid (∃lv',BX Z w' kb i lv' p bk/\BF kb lv W lv' w')
def ypQ (w3:World)(kb:Nat)(i:IC)(lv:Value)(p0 p:Img)(fa:Fa)(n t:Nat)(F:List Int)(most:Int)(cs rest:List Cm)(fin:BK)(m:Nat)(gk:Nat)(v51:Value)(wr:World):Prop:=
 ∃(j:Nat) (lv':Value) (b':BK),v51= .int .i64 j/\j<=m/\gk=m - j/\BX (fun _=>True) wr kb i lv' p0 b'/\BF kb lv w3 lv' wr/\CmI p fa n t F (cs.drop j) rest b'/\yiu most (cs.drop j) (j:Int) b'=fin
theorem yjm {N:Nat}(kb:Nat)(i:IC)(p:Img)(bk:BK)(W:World)(am:Option Addr)(n cap:Nat)(hn:bk.list.length=n)(B:BX (fun _=>True) W kb i (.slice am n cap) p bk)(G:Gl Tryz.prog N W)(hN:∀j,j=kb\/(Value.slice am n cap).ownBlock=some j->N<=j)(hw:∀x∈p.consts,x.wf)(fa:Fa)(at_:Int)(hck:yaY p=(fa,at_,0))
  (nn t seen:Nat)(most:Int)(hB:Bk (yaf p) fa bk nn t)(ho:bk.over=false)(hne:bk.list≠[])(hn30:nn<=30)(ht:t+1<=40)(hs:seen<=n)(htl:∀e∈bk.list.drop seen,yaI e.kind=true)(hs0:seen≠0):
  Calls Tryz.prog 68 #[.pointer (some ⟨kb,0,none⟩),(seen:Int),most] W (yoU (fun _=>True) W kb i (.slice am n cap) p (ybc (yaf p) bk seen most).2):=by
 obtain⟨b0,b1,b2,b3,b4,b6,bl,bf⟩:=B.q;obtain⟨K,P,Bo,S⟩:=ydM hw hck;obtain⟨Ar,Bs,F,Bn,hC⟩:=hB.start ho hne hn30 (by omega) htl;have A3:=hB.len hn30;have Ac:(ybc (yaf p) bk seen most).2=yiu most (ybJ (yan (yaf p) (rp0 (yaf p)) (bk.list.take seen))) 0 (ycu bk (ycU bk.list)):=by
  unfold ybc;rw[Ar];rfl
 obtain⟨ks,hR,hP⟩:=B.row.cells;obtain⟨Bp,A5⟩:=ygi ygh hR (k:=seen) (by rw[hP.1];omega);have X1:XRow (fun g=>g<W) W 40 (.slice am seen cap) (bk.list.take seen):=XRow.of A5 ((hP.take seen).mono (fun g _ h=>h));have E1:XRd (fun g=>g<W) W (.slice am seen cap) (bk.list.take seen):=X1.rd (fun g h _=>h) (fun g hg=>X1.lt hg);have E0:XRd (fun g=>g<W) W (.slice am n cap) bk.list:=B.row.rd (fun g _ h=>h) (fun g hg=>B.row.lt hg);have Bx:(ya8 (bk.list.take seen)).length<=30:=by
  have h1:(ya8 (bk.list.take seen)).length<=(ya8 bk.list).length:=by
   have h2:ya8 bk.list=ya8 (bk.list.take seen)++ya8 (bk.list.drop seen):=by rw[<-yaQ,List.take_append_drop]
   rw[h2,znk];omega
  have:=hB.o;omega
 have RY:=zhd (fun X (BW:Below W W X)=>ycw _ X (G.below BW) (znf G.n BW.size) i p ((B.img.mono (G:=fun g=>True) (fun _ _ _=>trivial)).below BW) hw _ hck am seen cap (bk.list.take seen) ((E1.below BW).mono (fun g hg hl=>hl)) (fun e he=>(hB.evs e (List.mem_of_mem_take he)).2) Bx (by rw[List.length_take];omega));have Y:=zh8 B hN hB hn hn30 ht A3 E0;have HS:=zh4 Ar Bs hC Ac;have HK:=zh4 K P Bo S;have HW:=zh3 hw hne hs0;have hD:Below W W W.drew:=(znv _ _).drew;clear B G hN hB ho hne hn30 ht hs htl hs0 hck K P Bo S Ar Bs hC A3 Ac hR hP A5 X1 E1 Bx hn hw E0;go_in;go_upto_region 1 with(fail);go_region_law ((go_simp;go_at_call 11;refine(RY.o _ (by first|exact hD|exact znv _ _)).mono ?_;rintro e w1 (⟨h,_⟩|⟨_,h,_⟩|⟨_,_,rb,b,mb,v,rfl,H1⟩);exact absurd rfl h;exact absurd HS.o.1 h))
 all_goals
  try simp only[Act.put,List.setIfInBounds_toArray,List.set_cons_succ,List.set_cons_zero,List.getElem_toArray,List.getElem_cons_succ,List.getElem_cons_zero]
  have B1:Below W W w1:=hD.trans H1.o.2.2;have Bm:=Y.o.1.ext B1;obtain⟨el,Bb,Bv⟩:=ykq Y.o.2.2.2.1 (fun h=>HW.o.2.1 (List.length_eq_zero_iff.1 (Y.o.2.2.2.1.trans h)));obtain⟨g,A6,vk,vn,vs,la,ln,lc,Cb,A2,hg,dv,y0,z,y2,y3,y4,y5,y6,y7,y8,y9,y10⟩:=yc5 Y.o.2.2.2.2.2.2.2 Bb;have B9:1<=n:=by have:=(zge Bb).1;have:=Y.o.2.2.2.1;omega
  have z1:=z;rw[<-B1.cell (p:=⟨g,_,none⟩) hg,<-Bv]at z1;obtain⟨m,hm⟩:∃m,n - 1=m:=⟨_,rfl⟩;rw[hm]at z1;have Ca:(m:Int)<(n:Int):=by omega
  have B5:IntKind.i64.wrap ((n:Int) - 1)=(m:Int):=by
   rw[zmk _ (by have:=Y.o.2.2.2.2.2.2.1;have:=Y.o.2.2.2.1;have:=Y.o.2.2.2.2.1;have:=Y.o.2.2.2.2.2.1;omega)];omega
  clear hm B9;have Ba:g<w1:=znj hg B1.size;obtain⟨lt,Ap⟩:∃lt,yhh bk.list=lt:=⟨_,rfl⟩;rw[Ap]at z1;have AD:=zhd (fun X (BW:Below w1 w1 X)=>ycD kb i p bk X am n cap Y.o.2.2.2.1 (Bm.ext BW) 0 lt 4 0 0 ⟨#[]⟩ ⟨#[]⟩ yag 0 0 ⟨#[]⟩ none 0 0 (fun _=>False) (yaH _ _) (fun _ f=>f.elim) (by have:=Y.o.2.2.2.2.2.2.1;have:=Y.o.2.2.2.1;have:=Y.o.2.2.2.2.1;have:=Y.o.2.2.2.2.2.1;omega));have Cd:=zhd (show(⟨0,lt,4,0,0,⟨#[]⟩,⟨#[]⟩,yag⟩:Ev)=ycU bk.list by unfold ycU;rw[Ap]);have Bg:Below w1 w1 w1.drew:=(znv _ _).drew;have Al:=zh3 H1.o.1 H1.o.2.1 B1;clear b0 b1 b2 b3 b4 b6 bl bf RY Bp B1 Bb Bv Ap dv y0 z y2 y3 y4 y5 y6 y7 y8 y9 y10 hg A2 H1;obtain⟨b0,b1,b2,b3,b4,b6,bl,bf⟩:=Bm.q;clear Bm;subst Cb;go_upto_region 4 with(fail);go_region_law ((go_simp;go_at_call 67;refine(AD.o _ (by first|exact Bg|exact znv _ _)).mono ?_;rintro e w2 ⟨rfl,H2⟩))
  all_goals
   obtain⟨Ah,Bl,F2⟩:=H2.o;rw[Cd.o]at Bl;obtain⟨rr,A1⟩:∃rr,yan (yaf p) (rp0 (yaf p)) (bk.list.take seen)=rr:=⟨_,rfl⟩;have R1:=Al.o.1;rw[A1]at R1;have Au:∀q,(q=kb\/(Value.slice (some ⟨g,A6,none⟩) n cap).ownBlock=some q)->q<W.heap.size:=fun q h=>h.elim (fun e=>e▸zlt Y.o.1.h) (fun h=>Y.o.1.row.lt h);have R2:RPX TR (fun j=>W<=j) w2 rb b mb v (yaf p) rr:=(by first|exact(R1.ext Bg).far F2.keeps (fun q hq e=>by have h1:=Au q hq;have h2:W<=q:=Al.o.2.1 q e;omega) (fun q hq e=>by have h1:=Au q hq;have e:W<=q:=e;omega)|exact R1.far F2.keeps (fun q hq e=>by have h1:=Au q hq;have h2:W<=q:=Al.o.2.1 q e;omega) (fun q hq e=>by have h1:=Au q hq;have e:W<=q:=e;omega));have B3:BF kb (.slice (some ⟨g,A6,none⟩) n cap) W Ah w2:=(by first|exact(BF.ext (Al.o.2.2.trans (Bg.mono Al.o.2.2.size))).trans F2|exact(BF.ext Al.o.2.2).trans F2);have B7:(ya8 (bk.list.take seen)).length<=30:=by
    have h2:ya8 bk.list=ya8 (bk.list.take seen)++ya8 (bk.list.drop seen):=by rw[<-yaQ,List.take_append_drop]
    have h3:=Y.o.2.2.1.o;rw[h2,znk]at h3;have:=Y.o.2.2.2.2.1;omega
   have R:=ykI HK.o.1 HK.o.2.1 HK.o.2.2.1 (bk.list.take seen) (rp0 (yaf p)) HK.o.2.2.2 (fun e he=>(Y.o.2.2.1.evs e (List.mem_of_mem_take he)).2) (by show 0+(ya8 (bk.list.take seen)).length<=30;omega) (znq _);rw[A1]at R;have T:rr.m.events<=30:=by have h1:=R.2.1;have h2:(rp0 (yaf p)).m.events=0:=rfl;omega
   have L2:LwR (yaf p) fa W.heap.size rb b mb v rr w2:=⟨R2,Al.o.2.1,R.1,R.2.2.1⟩;have PD:=zhd (L2.pending T);have Bi:=HS.o;rw[A1]at Bi;have Af:=zh4 Bl B3 R.1 Bi;have T:=zhd T;clear AD H2 Bl F2 R1 Au R2 B3 B7 R L2 Bi A1 b0 b1 b2 b3 b4 b6 bl bf z1 Ca B5 Ba;go_wp2_with fail;refine PD.o.mono ?_;rintro e w3 ⟨q3,rfl,H3⟩;obtain⟨L,hL⟩:∃L,L=(ybJ rr).map yaD:=⟨_,rfl⟩;have X3:=H3.o.1;rw[<-hL]at X3;obtain⟨pa,pc,rfl⟩:=X3.slice;obtain⟨pn,Ao⟩:∃pn,L.length=pn:=⟨_,rfl⟩;rw[Ao]at X3|-;have E3:XRd (fun q=>q<w3) w3 (.slice pa pn pc) L:=X3.rd (fun q _ h=>h) (fun q hq=>X3.lt hq);have A4:∀c∈L,yaV c=0/\szV c.v<=1073741824:=fun c hc=>by
    rw[hL]at hc;obtain⟨c0,At,rfl⟩:=List.mem_map.1 hc;have hm:c0∈rr.m.made:=by
     unfold ybJ at At;cases h:(rr.err !=0||rr.closed)with
     |true=>rw[h]at At;cases At
     |false=>rw[h]at At;exact List.mem_of_mem_drop (List.mem_filter.1 At).1
    have Br:=Af.o.2.2.1.rk.vs.mds c0 hm;have Bd:=yfG Br.1 Br.2;have:=ycZ (x:=(yaD c0).v) ⟨yo5 Bd.1,Bd.2⟩;exact⟨Bd.1,by omega⟩
   have Bq:pn<=700000:=by
    rw[<-Ao,hL,zmd];have h1:(ybJ rr).length<=rr.m.made.length:=by
     unfold ybJ;cases(rr.err !=0||rr.closed)with
     |true=>exact znq _
     |false=>exact znf (List.length_filter_le _ _) (by rw[List.length_drop];omega)
    have h2:=Af.o.2.2.1.bd;have h3:rr.m.events<=30:=T.o;omega
   have F3:BF kb (.slice (some ⟨g,A6,none⟩) n cap) W Ah w3:=Af.o.2.1.trans (BF.ext H3.o.2.2);have B2:∀q,(q=kb\/Ah.ownBlock=some q)->q<w2.heap.size:=fun q h=>h.elim (fun e=>e▸zlt Af.o.1.h) (fun h=>Af.o.1.row.lt h);have B4:XRd (fun q=>w2.heap.size<=q/\q<w3.heap.size) w3 (.slice pa pn pc) L:=X3.rd (fun q h hl=>⟨h,hl⟩) (fun q hq=>⟨H3.o.2.1 q (by rw[<-Ao]at hq;exact hq),X3.lt hq⟩);obtain⟨cs,Bc⟩:∃cs,cs=ybJ rr:=⟨_,rfl⟩;have HL:=zh6 (show L=cs.map yaD by rw[Bc];exact hL) Ao A4 Bq B4 B2;have hC:=Af.o.2.2.2.2.2.1;have Ac:=Af.o.2.2.2.2.2.2;rw[<-Bc]at hC Ac;have Ax:=zh4 (Af.o.1.ext H3.o.2.2) F3 hC Ac;clear PD H3 X3 E3 B4 A4 Bq F3 B2 Ao hL hC Ac Bc;go_wp2_with fail;go_loopg [51] pn (fun gk v51 wr=>ypQ w3 kb i Ah p (yaf p) fa nn (t+1) F most cs Bn (ybc (yaf p) bk seen most).2 pn gk v51 wr)
   case atStart=>exact⟨0,Ah,_,rfl,znq _,rfl,Ax.o.1,BF.refl _ _ _,Ax.o.2.2.1,Ax.o.2.2.2.symm⟩
   case round=>
    obtain⟨j,Cg,b',rfl,hj,Bz,An,Fr,CI,Am⟩:=hrel;have Cc:=(CI.bk.len Y.o.2.2.2.2.1);obtain⟨a',c',Bu⟩:=An.row.slice;obtain⟨n',A9⟩:∃n',b'.list.length=n':=⟨_,rfl⟩;rw[A9]at Bu;subst Bu;have HN:=zh2 A9 (show n'<=4000000 by have:=Y.o.2.2.2.2.1;have:=Y.o.2.2.2.2.2.1;omega);clear Cc A9;by_cases hjn:j<pn
    .obtain⟨c,hc⟩:=yac (l:=cs) (k:=j) (by have h1:=congrArg List.length HL.o.1;rw[zmd,HL.o.2.1]at h1;omega)
     have Be:L[j]? =some (yaD c):=by rw[HL.o.1,List.getElem?_map,hc];rfl
     obtain⟨g4,Ce,vk,vn,vs,la,ln,lc,rfl,A2,hg,dv,y0,z,y2,y3,y4,y5,y6,y7,y8⟩:=ykY HL.o.2.2.2.2.1 Be;have Bt:¬(g4=kb\/Ah.ownBlock=some g4):=fun e=>by have:=HL.o.2.2.2.2.2 g4 e;have:=A2.1;omega
     rw[<-Fr.keeps.cell (p:=⟨g4,_,none⟩) hg Bt]at y0 z y2 y3 y4 y5 y6 y7 y8;have Ba:g4<wr.heap.size:=znj hg Fr.keeps.size;have Cf:(j:Int)<(pn:Int):=by omega
     have Aa:=zhd (show wrap64 ((j:Int)+1)=(j:Int)+1 by have:=HL.o.2.2.2.1;unfold wrap64;omega);have As:cs.drop j=c::cs.drop (j+1):=by rw[znr (zge hc).1,(zge hc).2]
     rw[As]at CI Am;have Av:=zhd (HL.o.2.2.1 _ (zmg Be));have HM:=zhd (show pn - (j+1)<gk by omega);obtain⟨d,hd⟩:∃d,d=yaD c:=⟨_,rfl⟩;have HD:=zhd (show evW d=evW c/\d.kind=c.kind/\d.a=c.a by rw[hd];exact⟨ykK c,rfl,rfl⟩);rw[<-hd]at Av y0 z y2 y3 y4 dv;have HB:=zh4 An Fr CI Am;have B0:∀q,w2.heap.size<=q/\q<w3.heap.size->¬(q=kb\/Ah.ownBlock=some q):=fun q hq e=>by have:=HL.o.2.2.2.2.2 q e;omega
     have Bh:=dv.keep Fr.keeps B0;clear As hc Be A2 Bt Bz hj CI Am dv Fr hd B0;obtain⟨A,E,C,I,H,D⟩:=d;dsimp only at y0 z y2 y3 y4 Bh;go_upto_region 8 with(fail);refine yaa ?_;intro w6 A8;have B6:=zba A8;have Bf:=zha A8;have Bj:=An.ext B6;have H6:=zh4 Bj (HB.o.2.1.trans (BF.ext B6)) Bf (Bh.keep (S:=fun _=>False) (zkb B6) (fun _ _ f=>f));clear y0 z y2 y3 y4 y5 y6 y7 y8 Ba hg A8 B6 An Bh;obtain⟨x0,x1,x2,x3,x4,x5,x6,x7,x8,xl,_⟩:=ygt Bf;obtain⟨b0,b1,b2,b3,b4,b6,bl,bf⟩:=Bj.q;clear Bf Bj;obtain⟨jm,By⟩:∃jm,((j:Int)==most)=jm:=⟨_,rfl⟩;obtain⟨ov,Aj⟩:∃ov,b'.over=ov:=⟨_,rfl⟩;rw[Aj]at b6;cases hjo:(jm||ov)with
     |true=>
      have HF:=zhd (show b'=(ybc (yaf p) bk seen most).2 by rw[<-HB.o.2.2.2];exact(ymf (by rw[By,Aj];exact hjo)).symm);have HT:=zh2 H6.o.1 (Ax.o.2.1.trans H6.o.2.1);clear Aj;cases jm with
      |true=>
       go_wp2;go_ret;exact⟨rfl,zhd ⟨_,by rw[<-HF.o];exact HT.o.1,HT.o.2⟩⟩
      |false=>
       obtain rfl:ov=true:=hjo;go_wp2;go_ret;exact⟨rfl,zhd ⟨_,by rw[<-HF.o];exact HT.o.1,HT.o.2⟩⟩
     |false=>
      obtain⟨rfl,rfl⟩:=Bool.or_eq_false_iff.1 hjo;obtain⟨fb,Aq⟩:∃fb,yck b'.list C=fb:=⟨_,rfl⟩;have R:=fun w hw=>yme (w:=w) HB.o.2.2.1 HB.o.2.2.2 (by rw[By,Aj];rfl) Y.o.2.2.2.2.1 (by have:=Y.o.2.2.2.2.2.1;omega) hw;rw[<-HD.o.2.1,<-HD.o.2.2,<-HD.o.1]at R;dsimp only at R;rw[Aq]at R;have FI:=zhd (yjr kb i p b' w6 a' n' c' HN.o.1 H6.o.1 HN.o.2 C fb Aq);by_cases hk2:A=2
      .have n2:(A==2)=true:=by rw[beq_iff_eq];exact hk2
       have n3:(A !=2)=false:=by unfold bne;rw[n2];rfl
       clear hk2;cases fb with
       |true=>
        have V:=zhd (R false (by rw[n3];rfl));clear R Aj Aq hjo;go_wp2_with fail;refine FI.o.mono ?_;rintro e w7 ⟨rfl,Ae⟩;have HZ:=zh2 (H6.o.1.ext Ae) (H6.o.2.1.trans (BF.ext Ae));clear Ae FI x0 x1 x2 x3 x4 x5 x6 x7 x8 xl b0 b1 b2 b3 b4 b6 bl bf;have A0:=Aa.o;go_wp2_with fail;go_roundg (pn - (j+1))
        case measure=>exact HM.o
        case rel=>exact⟨j+1,_,_,by first|(simp;done)|(simp;exact Aa.o),hjn,rfl,HZ.o.1,HZ.o.2,V.o.1,V.o.2⟩
       |false=>
        have V:=zhd (R true (by rw[n3];rfl));clear R Aj Aq hjo;go_wp2_with fail;refine FI.o.mono ?_;rintro e Ad ⟨rfl,Ae⟩;have Ab:=zh4 (H6.o.1.ext Ae) (H6.o.2.1.trans (BF.ext Ae)) ((Ae.block wr xl).trans H6.o.2.2.1) (H6.o.2.2.2.keep (S:=fun _=>False) (zkb Ae) (fun _ _ f=>f));clear Ae FI x0 x1 x2 x3 x4 x5 x6 x7 x8 xl b0 b1 b2 b3 b4 b6 bl bf;obtain⟨x0,x1,x2,x3,x4,x5,x6,x7,x8,xl,_⟩:=ygt Ab.o.2.2.1;have CE:=zhd (yca (⟨A,E,C,I,H,D⟩:Cm) Av.o.1 Av.o.2 vk vn vs la ln lc (fun q=>w2<=q/\q<w3) Ad Ab.o.2.2.2);go_wp2_with fail;refine CE.o.mono ?_;rintro e w7 ⟨uk,un,us,ua,ul,uc,rfl,H7⟩;clear x0 x1 x2 x3 x4 x5 x6 x7 x8 xl CE;go_upto_region 11 with(fail);refine yaa ?_;intro w8 Ai;have Ak:=zha Ai;have B8:=zba Ai;obtain⟨y0,z,y2,y3,y4,y5,y6,y7,y8,y9,y10,yl,yf⟩:=yaB Ak;have Az:=H7.o.2.trans (B8.mono H7.o.2.size);have Ay:CF (fun q=>Ad<=q/\q<w7) w8 ⟨uk,un,us,ua,ul,uc⟩ (evOfC (⟨A,E,C,I,H,D⟩:Cm)).v:=(H7.o.1.mono (fun q hq hl=>⟨hq,hl⟩)).keep (S:=fun _=>False) (zkb B8) (fun _ _ f=>f);have H8:=zh3 Ak Ay Az;clear Ai B8 Ak Az Ay;by_cases h21:(evOfC (⟨A,E,C,I,H,D⟩:Cm)).kind=21
        .have A7:((evOfC (⟨A,E,C,I,H,D⟩:Cm)).kind==21)=true:=by rw[beq_iff_eq];exact h21
         have T:evW (⟨A,E,C,I,H,D⟩:Cm)={evOfC (⟨A,E,C,I,H,D⟩:Cm)with b:=2}:=by unfold evW;rw[if_pos h21]
         have r:=zhd T;clear T h21;go_upto_region 13 with(fail);refine yaa ?_;intro w9 J;have Z:w9.heap[w7.heap.size]? =some (.cells #[(evOfC (⟨A,E,C,I,H,D⟩:Cm)).id,(evOfC (⟨A,E,C,I,H,D⟩:Cm)).time,(evOfC (⟨A,E,C,I,H,D⟩:Cm)).kind,(evOfC (⟨A,E,C,I,H,D⟩:Cm)).a,.int .i64 2,(evOfC (⟨A,E,C,I,H,D⟩:Cm)).name,(evOfC (⟨A,E,C,I,H,D⟩:Cm)).text,uk,un,us,.slice ua ul uc] 40 (0,0)):=by
          rw[J];have:=H8.o.1;simp[World.setCell,zni,this]
         have K9:Keeps (fun q=>q=w7) w8 w9:=by rw[J];exact Keeps.setCell (S:=fun q=>q=w7) (p:=⟨w7,4,none⟩) (Keeps.refl _ _) (.inl rfl) _
         have U:Below Ad Ad w9:=by rw[J];exact H8.o.2.2.setCell (by exact H7.o.2.size) _
         have y:=H8.o.2.1.keep K9 (fun q hq e=>by have h1:=hq.2;have e:q=w7:=e;omega);clear y0 z y2 y3 y4 y5 y6 y7 y8 y9 y10 yl yf J K9;obtain⟨y0,z,y2,y3,y4,y5,y6,y7,y8,y9,y10,yl,yf⟩:=yaB Z;have AD:=zhd (ycD kb i p b' w9 a' n' c' HN.o.1 (Ab.o.1.ext U) (evOfC (⟨A,E,C,I,H,D⟩:Cm)).id (evOfC (⟨A,E,C,I,H,D⟩:Cm)).time (evOfC (⟨A,E,C,I,H,D⟩:Cm)).kind (evOfC (⟨A,E,C,I,H,D⟩:Cm)).a 2 (evOfC (⟨A,E,C,I,H,D⟩:Cm)).name (evOfC (⟨A,E,C,I,H,D⟩:Cm)).text (evOfC (⟨A,E,C,I,H,D⟩:Cm)).v uk un us ua ul uc (fun q=>Ad<=q/\q<w7) y (fun q hq=>⟨fun e=>by have:=zlt Ab.o.1.h;omega,fun e=>by have:=Ab.o.1.row.lt e;omega,trivial⟩) HN.o.2);have H9:=zh2 (Ab.o.2.1.trans (BF.ext U)) r.o;clear Z U y;go_wp2_with fail;refine AD.o.mono ?_;rintro e Ag ⟨rfl,s⟩;obtain⟨M,Q,u⟩:=s.o;have O:BX (fun _=>True) Ag kb i M p (ycu b' (evW (⟨A,E,C,I,H,D⟩:Cm))):=by rw[r.o];exact Q
         have HZ:=zh2 O (H9.o.1.trans u);clear AD s Q O u y0 z y2 y3 y4 y5 y6 y7 y8 y9 y10 yl yf;have A0:=Aa.o;go_wp2_with fail;go_roundg (pn - (j+1))
         case measure=>exact HM.o
         case rel=>exact⟨j+1,M,_,by first|(simp;done)|(simp;exact Aa.o),hjn,rfl,HZ.o.1,HZ.o.2,V.o.1,V.o.2⟩
        .have A7:((evOfC (⟨A,E,C,I,H,D⟩:Cm)).kind==21)=false:=by rw[zna];exact h21
         have T:evW (⟨A,E,C,I,H,D⟩:Cm)=evOfC (⟨A,E,C,I,H,D⟩:Cm):=by unfold evW;rw[if_neg h21]
         have r:=zhd T;clear T h21;go_upto_region 13 with(fail);obtain⟨w9,J⟩:∃w9,w9=w8:=⟨_,rfl⟩;have Z:w9.heap[w7.heap.size]? =some (.cells #[(evOfC (⟨A,E,C,I,H,D⟩:Cm)).id,(evOfC (⟨A,E,C,I,H,D⟩:Cm)).time,(evOfC (⟨A,E,C,I,H,D⟩:Cm)).kind,(evOfC (⟨A,E,C,I,H,D⟩:Cm)).a,(evOfC (⟨A,E,C,I,H,D⟩:Cm)).b,(evOfC (⟨A,E,C,I,H,D⟩:Cm)).name,(evOfC (⟨A,E,C,I,H,D⟩:Cm)).text,uk,un,us,.slice ua ul uc] 40 (0,0)):=by rw[J];exact H8.o.1
         have U:Below Ad Ad w9:=by rw[J];exact H8.o.2.2
         have y:CF (fun q=>Ad<=q/\q<w7) w9 ⟨uk,un,us,ua,ul,uc⟩ (evOfC (⟨A,E,C,I,H,D⟩:Cm)).v:=by rw[J];exact H8.o.2.1
         rw[<-J];clear y0 z y2 y3 y4 y5 y6 y7 y8 y9 y10 yl yf J;obtain⟨y0,z,y2,y3,y4,y5,y6,y7,y8,y9,y10,yl,yf⟩:=yaB Z;have AD:=zhd (ycD kb i p b' w9 a' n' c' HN.o.1 (Ab.o.1.ext U) (evOfC (⟨A,E,C,I,H,D⟩:Cm)).id (evOfC (⟨A,E,C,I,H,D⟩:Cm)).time (evOfC (⟨A,E,C,I,H,D⟩:Cm)).kind (evOfC (⟨A,E,C,I,H,D⟩:Cm)).a (evOfC (⟨A,E,C,I,H,D⟩:Cm)).b (evOfC (⟨A,E,C,I,H,D⟩:Cm)).name (evOfC (⟨A,E,C,I,H,D⟩:Cm)).text (evOfC (⟨A,E,C,I,H,D⟩:Cm)).v uk un us ua ul uc (fun q=>Ad<=q/\q<w7) y (fun q hq=>⟨fun e=>by have:=zlt Ab.o.1.h;omega,fun e=>by have:=Ab.o.1.row.lt e;omega,trivial⟩) HN.o.2);have H9:=zh2 (Ab.o.2.1.trans (BF.ext U)) r.o;clear Z U y;go_wp2_with fail;refine AD.o.mono ?_;rintro e Ag ⟨rfl,s⟩;obtain⟨M,Q,u⟩:=s.o;have O:BX (fun _=>True) Ag kb i M p (ycu b' (evW (⟨A,E,C,I,H,D⟩:Cm))):=by rw[r.o];exact Q
         have HZ:=zh2 O (H9.o.1.trans u);clear AD s Q O u y0 z y2 y3 y4 y5 y6 y7 y8 y9 y10 yl yf;have A0:=Aa.o;go_wp2_with fail;go_roundg (pn - (j+1))
         case measure=>exact HM.o
         case rel=>exact⟨j+1,M,_,by first|(simp;done)|(simp;exact Aa.o),hjn,rfl,HZ.o.1,HZ.o.2,V.o.1,V.o.2⟩
      .have n2:(A==2)=false:=by rw[zna];exact hk2
       have n3:(A !=2)=true:=by unfold bne;rw[n2];rfl
       have V:=zhd (R true (by rw[n3];rfl));clear R Aj Aq hjo hk2 FI x0 x1 x2 x3 x4 x5 x6 x7 x8 xl b0 b1 b2 b3 b4;obtain⟨x0,x1,x2,x3,x4,x5,x6,x7,x8,xl,_⟩:=ygt H6.o.2.2.1;have CE:=zhd (yca (⟨A,E,C,I,H,D⟩:Cm) Av.o.1 Av.o.2 vk vn vs la ln lc (fun q=>w2<=q/\q<w3) w6 H6.o.2.2.2);go_wp2_with fail;refine CE.o.mono ?_;rintro e w7 ⟨uk,un,us,ua,ul,uc,rfl,H7⟩;clear x0 x1 x2 x3 x4 x5 x6 x7 x8 xl CE;go_upto_region 11 with(fail);refine yaa ?_;intro w8 Ai;have Ak:=zha Ai;have B8:=zba Ai;obtain⟨y0,z,y2,y3,y4,y5,y6,y7,y8,y9,y10,yl,yf⟩:=yaB Ak;have Az:=H7.o.2.trans (B8.mono H7.o.2.size);have Ay:CF (fun q=>w6<=q/\q<w7) w8 ⟨uk,un,us,ua,ul,uc⟩ (evOfC (⟨A,E,C,I,H,D⟩:Cm)).v:=(H7.o.1.mono (fun q hq hl=>⟨hq,hl⟩)).keep (S:=fun _=>False) (zkb B8) (fun _ _ f=>f);have H8:=zh3 Ak Ay Az;clear Ai B8 Ak Az Ay;by_cases h21:(evOfC (⟨A,E,C,I,H,D⟩:Cm)).kind=21
       .have A7:((evOfC (⟨A,E,C,I,H,D⟩:Cm)).kind==21)=true:=by rw[beq_iff_eq];exact h21
        have T:evW (⟨A,E,C,I,H,D⟩:Cm)={evOfC (⟨A,E,C,I,H,D⟩:Cm)with b:=2}:=by unfold evW;rw[if_pos h21]
        have r:=zhd T;clear T h21;go_upto_region 13 with(fail);refine yaa ?_;intro w9 J;have Z:w9.heap[w7.heap.size]? =some (.cells #[(evOfC (⟨A,E,C,I,H,D⟩:Cm)).id,(evOfC (⟨A,E,C,I,H,D⟩:Cm)).time,(evOfC (⟨A,E,C,I,H,D⟩:Cm)).kind,(evOfC (⟨A,E,C,I,H,D⟩:Cm)).a,.int .i64 2,(evOfC (⟨A,E,C,I,H,D⟩:Cm)).name,(evOfC (⟨A,E,C,I,H,D⟩:Cm)).text,uk,un,us,.slice ua ul uc] 40 (0,0)):=by
         rw[J];have:=H8.o.1;simp[World.setCell,zni,this]
        have K9:Keeps (fun q=>q=w7) w8 w9:=by rw[J];exact Keeps.setCell (S:=fun q=>q=w7) (p:=⟨w7,4,none⟩) (Keeps.refl _ _) (.inl rfl) _
        have U:Below w6 w6 w9:=by rw[J];exact H8.o.2.2.setCell (by exact H7.o.2.size) _
        have y:=H8.o.2.1.keep K9 (fun q hq e=>by have h1:=hq.2;have e:q=w7:=e;omega);clear y0 z y2 y3 y4 y5 y6 y7 y8 y9 y10 yl yf J K9;obtain⟨y0,z,y2,y3,y4,y5,y6,y7,y8,y9,y10,yl,yf⟩:=yaB Z;have AD:=zhd (ycD kb i p b' w9 a' n' c' HN.o.1 (H6.o.1.ext U) (evOfC (⟨A,E,C,I,H,D⟩:Cm)).id (evOfC (⟨A,E,C,I,H,D⟩:Cm)).time (evOfC (⟨A,E,C,I,H,D⟩:Cm)).kind (evOfC (⟨A,E,C,I,H,D⟩:Cm)).a 2 (evOfC (⟨A,E,C,I,H,D⟩:Cm)).name (evOfC (⟨A,E,C,I,H,D⟩:Cm)).text (evOfC (⟨A,E,C,I,H,D⟩:Cm)).v uk un us ua ul uc (fun q=>w6<=q/\q<w7) y (fun q hq=>⟨fun e=>by have:=zlt H6.o.1.h;omega,fun e=>by have:=H6.o.1.row.lt e;omega,trivial⟩) HN.o.2);have H9:=zh2 (H6.o.2.1.trans (BF.ext U)) r.o;clear Z U y;go_wp2_with fail;refine AD.o.mono ?_;rintro e Ag ⟨rfl,s⟩;obtain⟨M,Q,u⟩:=s.o;have O:BX (fun _=>True) Ag kb i M p (ycu b' (evW (⟨A,E,C,I,H,D⟩:Cm))):=by rw[r.o];exact Q
        have HZ:=zh2 O (H9.o.1.trans u);clear AD s Q O u y0 z y2 y3 y4 y5 y6 y7 y8 y9 y10 yl yf;have A0:=Aa.o;go_wp2_with fail;go_roundg (pn - (j+1))
        case measure=>exact HM.o
        case rel=>exact⟨j+1,M,_,by first|(simp;done)|(simp;exact Aa.o),hjn,rfl,HZ.o.1,HZ.o.2,V.o.1,V.o.2⟩
       .have A7:((evOfC (⟨A,E,C,I,H,D⟩:Cm)).kind==21)=false:=by rw[zna];exact h21
        have T:evW (⟨A,E,C,I,H,D⟩:Cm)=evOfC (⟨A,E,C,I,H,D⟩:Cm):=by unfold evW;rw[if_neg h21]
        have r:=zhd T;clear T h21;go_upto_region 13 with(fail);obtain⟨w9,J⟩:∃w9,w9=w8:=⟨_,rfl⟩;have Z:w9.heap[w7.heap.size]? =some (.cells #[(evOfC (⟨A,E,C,I,H,D⟩:Cm)).id,(evOfC (⟨A,E,C,I,H,D⟩:Cm)).time,(evOfC (⟨A,E,C,I,H,D⟩:Cm)).kind,(evOfC (⟨A,E,C,I,H,D⟩:Cm)).a,(evOfC (⟨A,E,C,I,H,D⟩:Cm)).b,(evOfC (⟨A,E,C,I,H,D⟩:Cm)).name,(evOfC (⟨A,E,C,I,H,D⟩:Cm)).text,uk,un,us,.slice ua ul uc] 40 (0,0)):=by rw[J];exact H8.o.1
        have U:Below w6 w6 w9:=by rw[J];exact H8.o.2.2
        have y:CF (fun q=>w6<=q/\q<w7) w9 ⟨uk,un,us,ua,ul,uc⟩ (evOfC (⟨A,E,C,I,H,D⟩:Cm)).v:=by rw[J];exact H8.o.2.1
        rw[<-J];clear y0 z y2 y3 y4 y5 y6 y7 y8 y9 y10 yl yf J;obtain⟨y0,z,y2,y3,y4,y5,y6,y7,y8,y9,y10,yl,yf⟩:=yaB Z;have AD:=zhd (ycD kb i p b' w9 a' n' c' HN.o.1 (H6.o.1.ext U) (evOfC (⟨A,E,C,I,H,D⟩:Cm)).id (evOfC (⟨A,E,C,I,H,D⟩:Cm)).time (evOfC (⟨A,E,C,I,H,D⟩:Cm)).kind (evOfC (⟨A,E,C,I,H,D⟩:Cm)).a (evOfC (⟨A,E,C,I,H,D⟩:Cm)).b (evOfC (⟨A,E,C,I,H,D⟩:Cm)).name (evOfC (⟨A,E,C,I,H,D⟩:Cm)).text (evOfC (⟨A,E,C,I,H,D⟩:Cm)).v uk un us ua ul uc (fun q=>w6<=q/\q<w7) y (fun q hq=>⟨fun e=>by have:=zlt H6.o.1.h;omega,fun e=>by have:=H6.o.1.row.lt e;omega,trivial⟩) HN.o.2);have H9:=zh2 (H6.o.2.1.trans (BF.ext U)) r.o;clear Z U y;go_wp2_with fail;refine AD.o.mono ?_;rintro e Ag ⟨rfl,s⟩;obtain⟨M,Q,u⟩:=s.o;have O:BX (fun _=>True) Ag kb i M p (ycu b' (evW (⟨A,E,C,I,H,D⟩:Cm))):=by rw[r.o];exact Q
        have HZ:=zh2 O (H9.o.1.trans u);clear AD s Q O u y0 z y2 y3 y4 y5 y6 y7 y8 y9 y10 yl yf;have A0:=Aa.o;go_wp2_with fail;go_roundg (pn - (j+1))
        case measure=>exact HM.o
        case rel=>exact⟨j+1,M,_,by first|(simp;done)|(simp;exact Aa.o),hjn,rfl,HZ.o.1,HZ.o.2,V.o.1,V.o.2⟩
    .obtain rfl:j=pn:=by omega
     have Ch:¬(j:Int)<j:=by omega
     have As:cs.drop j=[]:=zns (by have h1:=congrArg List.length HL.o.1;rw[zmd,HL.o.2.1]at h1;omega);rw[As]at Am;have HF:=zhd (show b'=(ybc (yaf p) bk seen most).2 from Am);have HT:=zh2 An (Ax.o.2.1.trans Fr);clear As Am Bz hj CI An Fr;go_wp2;go_ret;exact⟨rfl,zhd ⟨_,by rw[<-HF.o];exact HT.o.1,HT.o.2⟩⟩
end Go.Proofs.YtpagmlndgblhhaaGreatDoor
namespace Go.Proofs.YtpagmlndgblhhaaGreatDoor
open Go.ChangeShapes Go.WideShapes Go.Deep Go.RowKit Go.Own Go.Va
open Go.Own.Cells (sz enc)
def PlAt (W:World)(a:Option Addr)(pl:List (Int×Int)):Prop:=∀(j:Nat) (q:Int×Int),pl[j]? =some q->∃g off,a=some ⟨g,off,none⟩/\g<W.heap.size/\W.cell? ⟨g,off+j*2,none⟩=some (.int .i64 q.1)/\W.cell? ⟨g,off+j*2+1,none⟩=some (.int .i64 q.2)
theorem PlAt.below {W W':World}{a:Option Addr}{pl:List (Int×Int)}(P:PlAt W a pl)(B:Below W W W'):PlAt W' a pl:=fun j q h=>by
 obtain⟨g,A,F,C,E,D⟩:=P j q h;exact⟨g,A,F,znj C B.size,(B.cell (p:=⟨g,_,none⟩) C).trans E,(B.cell (p:=⟨g,_,none⟩) C).trans D⟩
instance:Cells (Int×Int) where
 sz:=2
 enc q:=[.int .i64 q.1,.int .i64 q.2]
 len _:=rfl
 one q v h:=by
  simp at h;rcases h with rfl|rfl<;>rfl
end Go.Proofs.YtpagmlndgblhhaaGreatDoor
namespace Go.Proofs.YtpagmlndgblhhaaGreatDoor
open Go.RowKit Go.Own Go.Own.MapTy Go.Va Go.Sort
open Go.Own.Cells (sz enc)
set_option linter.unusedVariables false
set_option linter.unusedSimpArgs false
def yoA (W:World)(i:IC)(p:Img)(fa:Fa)(n:Nat)(e:Ending)(w':World):Prop:=∃kb:Nat,e= .returned (.tuple #[.pointer (some ⟨kb,0,none⟩),.bool true])/\Hid (∃(lv:Value) (bk:BK) (m t last:Nat),BX (fun _=>True) w' kb i lv p bk/\Wr (yaf p) fa bk m t last/\t<=m/\m<=n/\W<=kb/\(∀j,lv.ownBlock=some j->W.heap.size<=j)/\Below W W w')
def ynF (w1:World)(kb:Nat)(i:IC)(p:Img)(fa:Fa)(n:Nat)(gk:Nat)(v18 v9:Value)(wr:World):Prop:=
 ∃(j last m t:Nat) (lv:Value) (bk:BK),v18= .int .i64 j/\v9= .int .i64 last/\j<=n/\gk=n - j/\BX (fun _=>True) wr kb i lv p bk/\BF kb (.slice none 0 0) w1 lv wr/\Wr (yaf p) fa bk m t last/\t<=m/\m<=j/\(m=0↔j=0)
theorem yly {last n1:Nat}{y:Int}(h:1<=n1)(hl:last<=n1)(h7:n1<=700000):max (last:Int) (wrap64 ((n1:Int) - max 0 (min y (wrap64 ((n1:Int) - 1)))))=((seenB last n1 y:Nat):Int)/\1<=seenB last n1 y/\seenB last n1 y<=n1/\last<=seenB last n1 y:=by
 have e:wrap64 ((n1:Int) - 1)=(n1:Int) - 1:=by unfold wrap64;omega
 rw[e];obtain⟨m,hm⟩:∃m,max 0 (min y ((n1:Int) - 1))=m:=⟨_,rfl⟩;have A:wrap64 ((n1:Int) - m)=(n1:Int) - m:=by unfold wrap64;omega
 unfold seenB;rw[hm,A];have:=Int.toNat_of_nonneg (show 0<=m by omega);omega
theorem yhB {N:Nat}(F:Nat->Prop)(W:World)(G:Gl Tryz.prog N W)(hN:N<=W.heap.size)(i:IC)(p:Img)(H:IAt F W i p)(hw:∀x∈p.consts,x.wf)(fa:Fa)(at_:Int)(hck:yaY p=(fa,at_,0))
  (ea:Option Addr)(en ec:Nat)(l:List Ev)(E:XRd (fun j=>j<W) W (.slice ea en ec) l)(hew:∀e∈l,e.v.wf)(hl:l.length<=20)(hpl:yle l)(pa:Option Addr)(pc:Nat)(pl:List (Int×Int))(pn:Nat)(hpn:pl.length=pn)(hp30:pn<=30)(PL:PlAt W pa pl):
  Calls Tryz.prog 26 #[.agg #[.slice i.ca i.cn i.cc,.slice i.ka i.kn i.kc,.slice i.na i.nn i.nc,i.pl],.slice ea en ec,.slice pa pn pc] W (yoA W i p fa l.length):=by
 obtain⟨K,P,At,S⟩:=ydM hw hck;have Ay:l.length=en:=by obtain⟨a,c,h⟩:=E.slice;cases h;rfl
 obtain⟨w0,Aa⟩:∃w0,w0=W.alloc (.cells #[.slice i.ca i.cn i.cc,.slice i.ka i.kn i.kc,.slice i.na i.nn i.nc,i.pl] 28):=⟨_,rfl⟩;have B0:=zba Aa;have hB:=zha Aa;obtain⟨c0,c1,c2,c3,l0⟩:=zq4 hB;have I0:=(H.mono (G:=fun g=>g<W) (fun g _ h=>h)).below B0;have O:=zh8 B0 I0 E hew hl hpl PL (zai hpn (zai hp30 Ay));have HG:=zh2 G hN;have HK:=zh4 K P At S;have HC:=zh2 hw hck;clear B0 hB I0 H E hew hl hpl PL hpn hp30 Ay G hN K P At S hw hck;go_in;go_upto_region 1 with(fail);rw[<-Aa];clear Aa;go_upto_region 2 with(fail);refine yaa ?_;intro w1 Ai;have B1:=zba Ai;have A0:=zha Ai;have A3:BX (fun _=>True) w1 w0.heap.size i (.slice none 0 0) p ⟨[],false⟩:=⟨A0,XRow.nil _ _ _,(O.o.2.1.below B1).mono (fun g hg hl=>⟨fun e=>by have:=O.o.1.size;omega,(fun h=>by cases h),trivial⟩),fun h=>by cases h⟩;have H1:=zh2 (O.o.1.trans (B1.mono O.o.1.size)) A3;obtain⟨kb,Ap⟩:∃kb,w0.heap.size=kb:=⟨_,rfl⟩;have R:=zhd (show W.heap.size<=kb by rw[<-Ap];exact O.o.1.size);rw[Ap]at H1|-;clear c0 c1 c2 c3 l0 Ai B1 A0 A3 Ap;go_wp2_with fail
 go_loopg [18,9] en (fun gk v18 v9 wr=>ynF w1 kb i p fa en gk v18 v9 wr)
 case atStart=>exact⟨0,0,0,0,_,_,rfl,rfl,znq _,rfl,H1.o.2,BF.refl _ _ _,ynR HK.o.2.2.2,znc _,znc _,⟨fun _=>rfl,fun _=>rfl⟩⟩
 case round=>
  obtain⟨j,last,m,t,lv,bk,rfl,rfl,hj,Ax,d,Fr,WR,Ab,An,Ao⟩:=hrel;have D:∀q,q=kb\/lv.ownBlock=some q->W.heap.size<=q:=fun q h=>h.elim (fun e=>e▸R.o) (fun h=>(Fr.own q h).elim (fun h=>by cases h) (fun h=>znf H1.o.1.size h));have C:∀q,q=kb\/(Value.slice none 0 0).ownBlock=some q->W.heap.size<=q:=fun q h=>h.elim (fun e=>e▸R.o) (fun h=>by cases h);have BW:Below W W wr:=H1.o.1.trans (Fr.keeps.below H1.o.1.size (fun q hq e=>by have:=C q e;omega));have M:en<=20:=by have:=O.o.2.2.2.2.1;have:=O.o.2.2.2.2.2.2.2.2.2;omega
  by_cases hjn:j<en
  .obtain⟨e,he⟩:=yac (l:=l) (k:=j) (by have:=O.o.2.2.2.2.2.2.2.2.2;omega)
   obtain⟨g,Be,vk,vn,vs,la,ln,lc,rfl,A6,hg,dv,y0,y1,y2,y3,y4,y5,y6,y7,y8,y9,y10⟩:=yc5 (O.o.2.2.1.below BW) he;have Bd:(j:Int)<en:=by omega
   have z:wrap64 ((j:Int)+1)=(j:Int)+1:=by unfold wrap64;omega
   have Q:=zhd z;have HP:=zhd (O.o.2.2.2.2.2.1 j e he);have As:=O.o.2.2.2.1 e (zmg he);obtain⟨n',Am⟩:∃n',bk.list.length=n':=⟨_,rfl⟩;obtain⟨a',c',L⟩:=d.row.slice;rw[Am]at L;subst L;have Au:=WR.bk.len (by omega);have HN:=zh6 Am (show n'<=700000 by omega) D M As dv;have B:=zh6 (show en - (j+1)<gk by omega) WR Ab An Ao (show m+1<=30 by omega);have HR:=zh3 d Fr BW;clear Ax he A6 As dv Au D C M WR Ab An Ao d Fr BW Am hj z;obtain⟨e0,e1,u,e3,e4,e5,e6,ex⟩:=e;dsimp only at y0 y1 y2 y3 y4 y5 y6;go_upto_region 6 with(fail);refine yaa ?_;intro w6 Ah;have B6:=zba Ah;have Az:=zha Ah;have X:=zh5 (HR.o.1.ext B6) (HR.o.2.1.trans (BF.ext B6)) (HR.o.2.2.trans (B6.mono HR.o.2.2.size)) Az B6;clear y0 y1 y2 y3 y4 y5 y6 y7 y8 y9 y10 hg Ah B6 Az;obtain⟨x0,x1,x2,x3,x4,x5,x6,x7,x8,x9,x10,xl,_⟩:=yaB X.o.2.2.2.1;obtain⟨b0,b1,b2,b3,b4,b6,bl,bf⟩:=X.o.1.q;obtain⟨ov,J⟩:∃ov,bk.over=ov:=⟨_,rfl⟩;rw[J]at b6;cases ov with
   |true=>
    clear J;go_wp2_with fail;refine zng (v:=.tuple #[.pointer (some ⟨kb,0,none⟩),.bool true]) (by simp only[results,Tryz.results26];go_simp) rfl ?_;exact⟨kb,rfl,zhd ⟨_,bk,m,t,last,X.o.1,B.o.2.1,B.o.2.2.1,by have:=B.o.2.2.2.1;have:=O.o.2.2.2.2.2.2.2.2.2;omega,R.o,fun q h=>HN.o.2.2.1 q (.inr h),X.o.2.2.1⟩⟩
   |false=>
    obtain⟨gn,Aq⟩:∃gn,yfv bk.list e3=gn:=⟨_,rfl⟩;have CN:=zhd (yfJ kb i p bk w6 a' n' c' HN.o.1 X.o.1 (by have:=HN.o.2.1;omega) e3 gn Aq);have Ar:=zh2 J Aq;clear J Aq;go_upto_region 7 with(fail);go_cut [35] (fun v35 wx=>v35= .bool ((u==12)&&gn)/\Below w6 w6 wx)
    case first=>
     by_cases h12:u=12
     .have Ag:(u==12)=true:=by rw[beq_iff_eq];exact h12
      have HE:=zhd Ag;clear h12;go_wp2_with fail;refine CN.o.mono ?_;rintro e w7 ⟨rfl,A1⟩;have Bc:=zhd A1;clear A1;go_wp2_with fail;go_meet
      case rel=>exact⟨by rw[HE.o];rfl,Bc.o⟩
     .have Ag:(u==12)=false:=by rw[zna];exact h12
      have HE:=zhd Ag;clear h12;go_wp2_with fail;go_meet
      case rel=>exact⟨by rw[HE.o];rfl,znv _ _⟩
    case rest=>
     obtain⟨rfl,U⟩:=hcut;have H7:=zh5 (X.o.1.ext U) (X.o.2.1.trans (BF.ext U)) (X.o.2.2.1.trans (U.mono X.o.2.2.1.size)) ((U.block wr xl).trans X.o.2.2.2.1) (X.o.2.2.2.2.trans (U.mono X.o.2.2.2.2.size));clear U CN x0 x1 x2 x3 x4 x5 x6 x7 x8 x9 x10 xl b0 b1 b2 b3 b4 b6 bl bf;obtain⟨x0,x1,x2,x3,x4,x5,x6,x7,x8,x9,x10,xl,_⟩:=yaB H7.o.2.2.2.1;obtain⟨b0,b1,b2,b3,b4,b6,bl,bf⟩:=H7.o.1.q;cases hg12:((u==12)&&gn)with
     |true=>
      have Ba:=zhd (show m≠0 from fun h=>by
       have h1:gn=true:=(Bool.and_eq_true_iff.1 hg12).2;rw[<-Ar.o.2,B.o.2.1.nil.2 h]at h1;cases h1)
      clear hg12 x0 x1 x2 x3 x4 x5 x6 x7 x8 x9 x10 xl b0 b1 b2 b3 b4 b6 bl bf;have z:=Q.o;go_wp2_with fail;go_roundg (en - (j+1))
      case measure=>exact B.o.1
      case rel=>exact⟨j+1,last,m,t,_,bk,by first|(simp;done)|(simp;exact Q.o),rfl,hjn,rfl,H7.o.1,H7.o.2.1,B.o.2.1,B.o.2.2.1,by have:=B.o.2.2.2.1;omega,⟨fun h=>absurd h Ba.o,fun h=>by omega⟩⟩
     |false=>
      have W1:Wr (yaf p) fa (ycu bk ⟨e0,e1,u,e3,e4,e5,e6,ex⟩) (m+1) t last:=B.o.2.1.out_ HK.o.1 HK.o.2.1 HK.o.2.2.1 Ar.o.1 HP.o.1 HN.o.2.2.2.2.1 HP.o.2.1 (by have:=HP.o.2.2;have:=B.o.2.2.2.2.1;omega) (fun h=>by
       have h:u=12:=h;rw[show(u==12)=true by rw[beq_iff_eq];exact h,Bool.true_and,<-Ar.o.2]at hg12;exact hg12) B.o.2.2.2.2.2 (by have:=B.o.2.2.1;have:=B.o.2.2.2.2.2;omega)
      have AD:=zhd (ycD kb i p bk wc a' n' c' HN.o.1 H7.o.1 e0 e1 u e3 e4 e5 e6 ex vk vn vs la ln lc (fun q=>q<W) ((HN.o.2.2.2.2.2.keep (S:=fun _=>False) (zkb H7.o.2.2.2.2) (fun _ _ f=>f))) (fun q hq=>⟨fun e=>by have:=R.o;omega,fun e=>by have:=HN.o.2.2.1 q (.inr e);omega,trivial⟩) (by have:=HN.o.2.1;omega));have A8:=zhd W1;clear hg12 W1;go_wp2_with fail;refine AD.o.mono ?_;rintro e w8 ⟨rfl,H8⟩;obtain⟨Bg,Ac,F8⟩:=H8.o;obtain⟨V,Ae⟩:∃b,ycu bk ⟨e0,e1,u,e3,e4,e5,e6,ex⟩=b:=⟨_,rfl⟩;have W1:=A8.o;rw[Ae]at Ac W1;obtain⟨n1,Al⟩:∃n,V.list.length=n:=⟨_,rfl⟩;obtain⟨a1,c1,L⟩:=Ac.row.slice;rw[Al]at L;subst L;have F1:=H7.o.2.1.trans F8;have C:∀q,q=kb\/(Value.slice none 0 0).ownBlock=some q->W.heap.size<=q:=fun q h=>h.elim (fun e=>e▸R.o) (fun h=>by cases h);have BW:Below W W w8:=H1.o.1.trans (F1.keeps.below H1.o.1.size (fun q hq e=>by have:=C q e;omega));have D:∀q,q=kb\/(Value.slice a1 n1 c1).ownBlock=some q->W.heap.size<=q:=fun q h=>h.elim (fun e=>e▸R.o) (fun h=>(F1.own q h).elim (fun h=>by cases h) (fun h=>znf H1.o.1.size h));have Aj:V.list≠[]:=fun h=>by have:=W1.nil.1 h;omega
      have A5:=W1.bk.len B.o.2.2.2.2.2;have A:=zh8 Ac F1 BW W1 D Aj Al (show 1<=n1/\n1<=700000 from⟨by have:=List.length_pos_iff.2 Aj;omega,by have:=B.o.2.2.1;have:=B.o.2.2.2.2.2;omega⟩);clear AD H8 Ac F8 Ae W1 Al F1 C BW D Aj A5 x0 x1 x2 x3 x4 x5 x6 x7 x8 x9 x10 xl b0 b1 b2 b3 b4 b6 bl bf;obtain⟨b0,b1,b2,b3,b4,b6,bl,bf⟩:=A.o.1.q;obtain⟨ov,J⟩:∃ov,V.over=ov:=⟨_,rfl⟩;rw[J]at b6;have Af:=zhd J;have Z:=zhd (show ynF w1 kb i p fa en (en - (j+1)) (.int .i64 ((j+1:Nat):Int)) (.int .i64 (last:Int)) w8 from⟨j+1,last,m+1,t,_,V,rfl,rfl,hjn,rfl,A.o.1,A.o.2.1,A.o.2.2.2.1,by have:=B.o.2.2.1;omega,by have:=B.o.2.2.2.1;omega,⟨fun h=>by omega,fun h=>by omega⟩⟩);clear J;have z:=Q.o;by_cases hjp:j<pn
      .obtain⟨q,hq⟩:=yac (l:=pl) (k:=j) (by have:=O.o.2.2.2.2.2.2.2.1;omega)
       obtain⟨pg,po,rfl,A4,z0,z1⟩:=(O.o.2.2.2.2.2.2.1.below A.o.2.2.1) j q hq;have T:(j:Int)<pn:=by omega
       have Av:decide ((j:Int)<pn)=true:=zno T;obtain⟨x,y⟩:=q;dsimp only at z0 z1;clear hq;by_cases hx:0<x
       .have dx:decide (0<x)=true:=zno hx
        cases ov with
        |true=>
         go_wp2_with fail;go_roundg (en - (j+1))
         case measure=>exact B.o.1
         case rel=>simpa[Q.o]using Z.o
        |false=>
         obtain⟨s1,s2,s3,s4⟩:=yly (y:=y) A.o.2.2.2.2.2.2.2.1 (by have:=A.o.2.2.2.1.lst;rw[A.o.2.2.2.2.2.2.1]at this;exact this) A.o.2.2.2.2.2.2.2.2;obtain⟨I,Y⟩:∃s,seenB last n1 y=s:=⟨_,rfl⟩;rw[Y]at s1 s2 s3 s4;have WC:=A.o.2.2.2.1.commit Af.o (by omega) B.o.2.2.2.2.2 (by have:=B.o.2.2.1;have:=B.o.2.2.2.2.2;omega) s4 x;have CT:=zhd (yjm kb i p V w8.drew a1 n1 c1 A.o.2.2.2.2.2.2.1 (A.o.1.ext (znv _ _).drew) ((HG.o.1.below A.o.2.2.1).drew) (fun q hq=>znf HG.o.2 (A.o.2.2.2.2.1 q hq)) HC.o.1 fa at_ HC.o.2 (m+1) t I x A.o.2.2.2.1.bk Af.o A.o.2.2.2.2.2.1 B.o.2.2.2.2.2 (by have:=B.o.2.2.1;have:=B.o.2.2.2.1;have:=HN.o.2.2.2.1;omega) s3 (fun e he=>A.o.2.2.2.1.tail e (by
          rw[show I=last+(I - last) by omega,<-List.drop_drop]at he;exact List.mem_of_mem_drop he)) (by omega))
         have n0:((I:Int)==0)=false:=by rw[zna];omega
         have A9:=zhd s1;have A7:=zhd WC.2.2;clear s1 s2 s3 s4 Y WC hx hjp;go_upto_region 10 with(fail);go_region;rw[A9.o];go_wp2_with fail;refine CT.o.mono ?_;rintro e w9 ⟨rfl,H9⟩;obtain⟨Bf,r,F9⟩:=H9.o;obtain⟨A2,Ad⟩:∃b,(ybc (yaf p) V I x).2=b:=⟨_,rfl⟩;have W2:=A7.o;rw[Ad]at r W2;obtain⟨n2,Ak⟩:∃n,A2.list.length=n:=⟨_,rfl⟩;rw[Ak]at W2;obtain⟨a2,c2,L⟩:=r.row.slice;rw[Ak]at L;subst L;have Bb:=zhd (show ynF w1 kb i p fa en (en - (j+1)) (.int .i64 ((j+1:Nat):Int)) (.int .i64 (n2:Int)) w9 from⟨j+1,n2,m+1,t+1,_,A2,rfl,rfl,hjn,rfl,r,A.o.2.1.trans ((BF.ext (znv _ _).drew).trans F9),W2,by have:=B.o.2.2.1;omega,by have:=B.o.2.2.2.1;omega,⟨fun h=>by omega,fun h=>by omega⟩⟩);clear b0 b1 b2 b3 b4 b6 bl bf;obtain⟨b0,b1,b2,b3,b4,b6,bl,bf⟩:=r.q;clear H9 r F9 Ad W2 Ak CT n0 z0 z1 A4 dx T Av;go_wp2_with fail;go_roundg (en - (j+1))
         case measure=>exact B.o.1
         case rel=>simpa[Q.o]using Bb.o
       .have dx:decide (0<x)=false:=znd hx
        go_wp2_with fail;go_roundg (en - (j+1))
        case measure=>exact B.o.1
        case rel=>simpa[Q.o]using Z.o
      .have T:¬(j:Int)<pn:=by omega
       have Av:decide ((j:Int)<pn)=false:=znd T;go_wp2_with fail;go_roundg (en - (j+1))
       case measure=>exact B.o.1
       case rel=>simpa[Q.o]using Z.o
  .obtain rfl:j=en:=by omega
   have Bh:¬(j:Int)<j:=by omega
   have HT:=zh7 d WR Ab (show m<=l.length by have:=O.o.2.2.2.2.2.2.2.2.2;omega) R.o (show∀q,lv.ownBlock=some q->W.heap.size<=q from fun q h=>D q (.inr h)) BW;clear Ax d Fr WR Ab An Ao D C BW M hj;go_wp2_with fail;refine zng (v:=.tuple #[.pointer (some ⟨kb,0,none⟩),.bool true]) (by simp only[results,Tryz.results26];go_simp) rfl ?_;exact⟨kb,rfl,zhd ⟨lv,bk,m,t,last,HT.o⟩⟩
end Go.Proofs.YtpagmlndgblhhaaGreatDoor
