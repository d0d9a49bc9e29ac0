/- Parts of the proof: what the functions and the plain laws give that later parts lean on. Conditions: none beyond those that each theorem names. -/
import Derived.Lib.MinMax
import Derived.HandedShaped
import Derived.LaidMore
import Derived.Lay
import Derived.MakeChecks
import Derived.Stop.LaidErr
import Derived.Shelf.Vars
import Derived.ChangeOld
import Derived.Test.YtpagmlndgblhhaaGreatDoorW21
set_option maxRecDepth 100000
set_option maxHeartbeats 8000000
namespace Go.Va
open Go.Own Go.RowKit
def fitX (d:Int):Val->Int->Bool×Int
 | .mk _ _ s l,left=>bif decide (left - 1<0)||(decide (12<d)||decide (300<s.size))then(false,left - 1)else fitXL (d+1) l (left - 1)
where fitXL (d:Int):List Val->Int->Bool×Int
 |[],left=>(true,left)
 |x::r,left=>bif (fitX d x left).1 then fitXL d r (fitX d x left).2 else(false,(fitX d x left).2)
theorem ynE (d:Int)(x:Val)(left:Int):fitX d x left=bif decide (left - 1<0)||(decide (12<d)||decide (300<x.txt.size))then(false,left - 1)else fitX.fitXL (d+1) x.list (left - 1):=by
 cases x;rw[fitX];rfl
theorem ydj (d:Int)(x:Val)(r:List Val)(left:Int):fitX.fitXL d (x::r) left=bif (fitX d x left).1 then fitX.fitXL d r (fitX d x left).2 else(false,(fitX d x left).2):=by rw[fitX.fitXL]
theorem ygy (d:Int)(left:Int):fitX.fitXL d [] left=(true,left):=by rw[fitX.fitXL]
mutual
theorem yfI:∀(x:Val) (d left:Int),left<=400->(fitX d x left).2<=400/\((fitX d x left).1=true->0<=(fitX d x left).2)
 | .mk k n s l,d,left,h=>by
   rw[fitX];by_cases h1:left - 1<0
   .rw[zno h1]
    simp;omega
   .rw[znd h1]
    cases(decide (12<d)||decide (300<s.size))
    .simp only[Bool.false_or,znl]
     exact yiy l (d+1) (left - 1) (by omega) (by omega)
    .simp
     omega
theorem yiy:∀(l:List Val) (d left:Int),left<=400->0<=left->(fitX.fitXL d l left).2<=400/\((fitX.fitXL d l left).1=true->0<=(fitX.fitXL d l left).2)
 |[],d,left,h,h0=>by rw[ygy];exact⟨h,fun _=>h0⟩
 |x::r,d,left,h,h0=>by
  rw[ydj];have h1:=yfI x d left h;cases hf:(fitX d x left).1 with
  |false=>exact⟨h1.1,fun e=>by cases e⟩
  |true=>exact yiy r d _ h1.1 (h1.2 hf)
end
mutual
theorem yfH:∀(x:Val) (d left:Int),(fitX d x left).1=true->x.all (fun _ _ s=>s.size<=300)
 | .mk k n s l,d,left,h=>by
   rw[fitX]at h;rw[Val.all];cases hc:(decide (left - 1<0)||(decide (12<d)||decide (300<s.size)))with
   |true=>rw[hc]at h;cases h
   |false=>
    rw[hc]at h;simp only[znl]at h;simp only[Bool.or_eq_false_iff,znz]at hc;exact⟨by omega,ygx l (d+1) _ h⟩
theorem ygx:∀(l:List Val) (d left:Int),(fitX.fitXL d l left).1=true->Val.all.allL (fun _ _ s=>s.size<=300) l
 |[],_,_,_=>by rw[Val.all.allL];trivial
 |x::r,d,left,h=>by
  rw[ydj]at h;rw[Val.all.allL];cases hf:(fitX d x left).1 with
  |false=>rw[hf]at h;cases h
  |true=>
   rw[hf]at h;exact⟨yfH x d left hf,ygx r d _ h⟩
end
theorem yld:∀{x:Val},x.all (fun _ _ s=>s.size<=300)->x.all (fun _ _ s=>s.size<=1100)
 | .mk k n s l,h=>by
   rw[Val.all]at h|-;refine⟨by have:=h.1;omega,?_⟩;have h2:=h.2;rw[Val.allL_iff]at h2|-;exact fun x hx=>yld (h2 x hx)
end Go.Va
namespace Go.Proofs.YtpagmlndgblhhaaGreatDoor
open Go.RowKit Go.Own Go.Own.MapTy Go.Va Go.Sort
open Go.Own.Cells (sz enc)
def yqf (w:World)(b:Nat)(d:Int)(l:List Val)(r:Bool×Int)(gk:Nat)(v31:Value)(wr:World):Prop:=
 ∃(i:Nat) (cur:Int),v31= .int .i64 i/\i<=l.length/\gk=l.length - i/\LX wr b cur/\Keeps (fun j=>j=b) w wr/\fitX.fitXL d (l.drop i) cur=r/\0<=cur/\cur<=400
theorem yhA (n:Nat)(IH:∀(x:Val),x.parts<=n->∀(b:Nat) (d left:Int) (c:VC) (F:Nat->Prop) (w:World),LX w b left->CF F w c x->¬F b->0<=left->left<=400->0<=d->d<=100->
   Calls Tryz.prog 81 #[.agg #[c.kind,c.n,c.s,.slice c.la c.ln c.lc],d,.pointer (some ⟨b,0,none⟩)] w (ynY w b (fitX d x left)))
  (x:Val)(hx:x.parts<=n+1)(b:Nat)(d left:Int)(ck cn:Int)(cs:ByteArray)(la:Option Addr)(ln lc:Nat)(F:Nat->Prop)(w:World)(H:LX w b left)(C:CF F w ⟨ck,cn,cs,la,ln,lc⟩ x)(hF:¬F b)(h0:0<=left)(h4:left<=400)(hd0:0<=d)(hd:d<=100)(r:Bool×Int)(hr:fitX d x left=r):
  Calls Tryz.prog 81 #[.agg #[ck,cn,cs,.slice la ln lc],d,.pointer (some ⟨b,0,none⟩)] w (ynY w b r):=by
 rw[ynE]at hr;have HI:=zhd IH;have T:cs=x.txt:=C.s;rw[<-T]at hr;have b0:=zlt H;have c0:=H.c;have f0:∀o,w.frozen? ⟨b,o,none⟩=false:=fun o=>zfr H o;obtain⟨I,J,B⟩:=C.l.elems;dsimp only at I J B;have Ai:IntKind.i64.wrap (left - 1)=left - 1:=zmk _ (by omega);have Ah:IntKind.i64.wrap (d+1)=d+1:=zmk _ (by omega);have Y:=zhd I;have Ad:ln<=9223372036854775807:=by unfold maxLen at J;omega
 have HE:=zhd B;have Ac:¬w.heap.size=b:=by omega
 have W:¬b=w.heap.size:=by omega
 have E:=zh2 (H.set (left - 1)) (Keeps.setCell (S:=fun j=>j=b) (p:=⟨b,0,none⟩) (Keeps.refl _ w) (.inl rfl) (.int .i64 (left - 1)));clear IH C T H I J B;go_in;have t:(decide (left - 1<0)||(decide (12<d)||decide (300<cs.size)))=true\/(decide (left - 1<0)=false/\decide (12<d)=false/\decide (300<cs.size)=false):=by
  cases decide (left - 1<0)<;>cases decide (12<d)<;>cases decide (300<cs.size)<;>simp
 rcases t with O|⟨q,m,P⟩
 .rw[O]at hr
  simp only[znm]at hr;subst hr;have KA:∀(X:World) (o:Obj),Keeps (fun j=>j=b) X (X.alloc o):=fun X o=>(Keeps.refl _ _).alloc _;cases q:decide (left - 1<0)with
  |true=>
   clear O;go_wp2;go_ret;exact⟨rfl,zhd ⟨E.o.1.keep (S:=fun _=>False) ((Keeps.refl _ _).alloc _) (fun f=>f),E.o.2.alloc _⟩⟩
  |false=>
   cases m:decide (12<d)with
   |true=>
    clear O;go_wp2;go_ret;exact⟨rfl,zhd ⟨E.o.1.keep (S:=fun _=>False) ((Keeps.refl _ _).alloc _) (fun f=>f),E.o.2.alloc _⟩⟩
   |false=>
    have P:decide (300<cs.size)=true:=by rw[q,m]at O;simpa using O
    have h4:(300:Int)<cs.size:=by have:=znx P;omega
    clear O P;go_wp2;go_ret;exact⟨rfl,zhd ⟨E.o.1.keep (S:=fun _=>False) ((Keeps.refl _ _).alloc _) (fun f=>f),E.o.2.alloc _⟩⟩
 .rw[q,m,P]at hr
  simp only[Bool.or_self,znl]at hr;have h5:¬(300:Int)<cs.size:=by have:=zny P;omega
  have h6:0<=left - 1:=by have:=zny q;omega
  have hl:=zhd hr;clear hr P;go_wp2_with fail;obtain⟨w1,A⟩:∃w1,w1=(w.setCell ⟨b,0,none⟩ (.int .i64 (left - 1))).alloc (.cells #[ck,cn,cs,.slice la ln lc] 38):=⟨_,rfl⟩;have X1:LX w1 b (left - 1):=by rw[A];exact E.o.1.keep (S:=fun _=>False) ((Keeps.refl _ _).alloc _) (fun f=>f)
  have K1:Keeps (fun j=>j=b) w w1:=by rw[A];exact E.o.2.alloc _
  rw[<-A];have H1:=zh2 X1 K1;clear A X1 K1 c0 f0 Ac W;go_loopg [31] (x.list.length) (fun gk v31 wr=>yqf w b (d+1) x.list r gk v31 wr)
  case atStart=>exact⟨0,_,rfl,znq _,rfl,H1.o.1,H1.o.2,hl.o,h6,by omega⟩
  case round=>
   obtain⟨i,M,rfl,hi,K,a,L,Q,Aa,U⟩:=hrel;by_cases hin:i<ln
   .obtain⟨y,G⟩:=yae (l:=x.list) (k:=i) (by have:=Y.o;omega)
    obtain⟨g,Af,rfl,Ab,hg,B⟩:=HE.o.resolve_left (fun e=>by rw[e]at G;simp at G);obtain⟨N,hC,q0,q1,q2,q3⟩:=B i y G;have z:¬g=b:=fun e=>hF (e▸Ab);have Aj:g<wr:=by have:=L.size;omega
    rw[<-L.cell (p:=⟨g,_,none⟩) hg z]at q0 q1 q2 q3;have R:x.list.drop i=y::x.list.drop (i+1):=by
     rw[znr (zge G).1,(zge G).2]
    rw[R,ydj]at Q;have u:y.parts<=n:=by
     have:=Val.parts_lt (v:=x) (zmg G);omega
    have Ae:(i:Int)<ln:=by omega
    have Ag:IntKind.i64.wrap ((i:Int)+1)=(i:Int)+1:=zmk _ (by omega);have CA:=zhd (HI.o y u b (d+1) M N F _ (a.keep (S:=fun _=>False) ((Keeps.refl _ _).alloc (.cells #[N.kind,N.n,N.s,.slice N.la N.ln N.lc] 38)) (fun f=>f)) ((hC.keep L (fun g h e=>hF (e▸h))).keep (S:=fun _=>False) ((Keeps.refl _ _).alloc _) (fun _ _ f=>f)) hF Aa U (by omega) (by have:=zny m;omega));have V:=yfI y (d+1) M U;generalize fitX (d+1) y M=fv at*;have D:=zh4 Q K L V;clear Q K L V hC a R G B;go_wp2_with fail;refine CA.o.mono ?_;rintro e w5 ⟨rfl,H5⟩;have K5:Keeps (fun j=>j=b) w w5:=(D.o.2.2.1.alloc _).trans H5.o.2 (fun _ _ e=>e);have Z:=zhd K5;clear K5 CA;cases hfv:fv.1 with
    |false=>
     have hr:=D.o.1;rw[hfv]at hr;simp only[znl]at hr;subst hr;go_wp2;go_ret;exact⟨rfl,zhd ⟨H5.o.1,Z.o⟩⟩
    |true=>
     have hr:=D.o.1;rw[hfv]at hr;simp only[znm]at hr;have HR:=zhd hr;clear hr;go_wp2_with fail;go_roundg (x.list.length - (i+1))
     case measure=>have:=D.o.2.1;have:=Y.o;omega
     case rel=>exact⟨i+1,fv.2,by simp,by have:=Y.o;omega,rfl,H5.o.1,Z.o,HR.o,D.o.2.2.2.2 hfv,D.o.2.2.2.1⟩
   .obtain rfl:i=ln:=by have:=Y.o;omega
    rw[zns (by have:=Y.o;omega),ygy]at Q;have D:=zh2 a L;subst Q;clear a L K;go_wp2;go_ret;exact⟨rfl,zhd ⟨D.o.1,D.o.2⟩⟩
theorem ydi:∀(n:Nat) (x:Val),x.parts<=n->∀(b:Nat) (d left:Int) (c:VC) (F:Nat->Prop) (w:World),LX w b left->CF F w c x->¬F b->0<=left->left<=400->0<=d->d<=100->
  Calls Tryz.prog 81 #[.agg #[c.kind,c.n,c.s,.slice c.la c.ln c.lc],d,.pointer (some ⟨b,0,none⟩)] w (ynY w b (fitX d x left))
 |0,x,hx,_,_,_,_,_,_,_,_,_,_,_,_,_=>by have:=x.parts_pos;omega
 |n+1,x,hx,b,d,left,⟨ck,cn,cs,la,ln,lc⟩,F,w,H,C,hF,h0,h4,hd0,hd=>yhA n (fun y hy=>ydi n y hy) x hx b d left ck cn cs la ln lc F w H C hF h0 h4 hd0 hd _ rfl
def Sy0 (w1:World)(b:Nat)(p:Img)(gk:Nat)(v33:Value)(wr:World):Prop:=
 ∃(k:Nat) (cur:Int),v33= .int .i64 k/\k<=1/\gk=1 - k/\LX wr b cur/\Keeps (fun j=>j=b) w1 wr/\0<=cur/\cur<=400/\(k=1->p.code.length<=40/\∀x∈p.consts,x.all (fun _ _ s=>s.size<=300))
def Sy1 (w1:World)(b:Nat)(l:List Val)(gk:Nat)(v36:Value)(wr:World):Prop:=
 ∃(i:Nat) (cur:Int),v36= .int .i64 i/\i<=l.length/\gk=l.length - i/\LX wr b cur/\Keeps (fun j=>j=b) w1 wr/\0<=cur/\cur<=400/\∀x∈l.take i,x.all (fun _ _ s=>s.size<=300)
def Sy2 (w1:World)(b:Nat)(l:List Ev)(gk:Nat)(v46:Value)(wr:World):Prop:=
 ∃(i:Nat) (cur:Int),v46= .int .i64 i/\i<=l.length/\gk=l.length - i/\LX wr b cur/\Keeps (fun j=>j=b) w1 wr/\0<=cur/\cur<=400/\∀e∈l.take i,e.v.all (fun _ _ s=>s.size<=300)
theorem ydY (F:Nat->Prop)(w:World)(i:IC)(p:Img)(H:IAt F w i p)(b0:Nat)(HB:BoxI w b0 i)(G:Nat->Prop)(ea:Option Addr)(en ec:Nat)(l:List Ev)(E:XRd G w (.slice ea en ec) l):
  Calls Tryz.prog 38 #[.slice (some ⟨b0,0,none⟩) 1 1,.slice ea en ec,.slice none 0 0] w (yo2 p l w):=by
 obtain⟨h1,h2,h3⟩:=H.lens;have h4:en=l.length:=by obtain⟨a,c,h⟩:=E.slice;cases h;rfl
 have hk:=H.consts.elems.2.2;have hn:=H.names.elems.2.2;obtain⟨ca,cn,cc,ka,kn,kc,na,nn,nc,pl⟩:=i;dsimp only at h1 h2 h3 hk hn;have HE:=zh4 hk hn E HB;have P:=zh4 h1 h2 h3 h4;clear H h1 h2 h3 hk hn h4 E HB;go_in;by_cases g4:20<en
 .have e4:(20:Int)<en:=by omega
  clear g4;go_wp2;go_ret;exact⟨false,rfl,zhd ⟨fun h=>(by cases h),znv _ _⟩⟩
 .have e4:¬(20:Int)<en:=by omega
  have At:en<=20:=by omega
  clear g4;obtain⟨w1,t⟩:∃w1,w1=w.alloc (.cells #[.int .i64 300] 3):=⟨_,rfl⟩;have B1:=zba t;have X1:LX w1 w.heap.size 300:=by rw[t];exact znb _ _
  have I:=zh2 B1 X1;clear B1 X1;go_wp2_with fail;rw[<-t];clear t;go_loopg [33] 1 (fun gk v33 wr=>Sy0 w1 w.heap.size p gk v33 wr)
  case atStart=>exact⟨0,300,rfl,by omega,rfl,I.o.2,Keeps.refl _ _,by decide,by decide,fun h=>by cases h⟩
  case round=>
   obtain⟨k,Ai,rfl,hk,C,Q,M,J,D,A⟩:=hrel;obtain⟨wo,rfl⟩:∃wo:World,wo=wr:=⟨_,rfl⟩;have B:Below w w wo:=I.o.1.trans (M.below I.o.1.size (fun j u e=>by omega));by_cases hk0:k=0
   .subst hk0
    have hq:wo.heap[b0]? =some (.cells #[.slice ca cn cc,.slice ka kn kc,.slice na nn nc,pl] 28 (0,0)):=HE.o.2.2.2.below B;obtain⟨q0,q1,q2,q3,ql⟩:=zq4 hq;clear hq;obtain⟨w2,r⟩:∃w2,w2=wo.alloc (.cells #[.slice ca cn cc,.slice ka kn kc,.slice na nn nc,pl] 28):=⟨_,rfl⟩;have B2:=zba r;have b2:=zha r;have Ae:w<wo.heap.size:=zlt Q;have K2:Keeps (fun j=>j=w) w1 w2:=M.trans (zkb (S:=fun _=>False) B2) (fun _ _ f=>f.elim);have V:=zh7 K2 (Q.keep (S:=fun _=>False) (zkb B2) (fun f=>f)) b2 Ae J D C;have r0:=zca b2 0 rfl;have r1:=zca b2 1 rfl;have r2:=zca b2 2 rfl;have rl:=zlt b2;clear Q M B J D C A hk B2 b2 Ae K2;go_upto_region 7 with(fail);rw[<-r];clear r q0 q1 q2 q3 ql;by_cases g1:40<cn
    .have e1:(40:Int)<cn:=by omega
     clear g1;go_wp2;go_ret;exact⟨false,rfl,zhd ⟨fun h=>(by cases h),(I.o.1.trans (V.o.1.below I.o.1.size (fun j u e=>by omega)))⟩⟩
    .have e1:¬(40:Int)<cn:=by omega
     by_cases g2:20<kn
     .have e2:(20:Int)<kn:=by omega
      clear g1 g2;go_wp2;go_ret;exact⟨false,rfl,zhd ⟨fun h=>(by cases h),(I.o.1.trans (V.o.1.below I.o.1.size (fun j u e=>by omega)))⟩⟩
     .have e2:¬(20:Int)<kn:=by omega
      by_cases g3:20<nn
      .have e3:(20:Int)<nn:=by omega
       clear g1 g2 g3;go_wp2;go_ret;exact⟨false,rfl,zhd ⟨fun h=>(by cases h),(I.o.1.trans (V.o.1.below I.o.1.size (fun j u e=>by omega)))⟩⟩
      .have e3:¬(20:Int)<nn:=by omega
       have HG:=zh3 g1 g2 g3;have As:kn<=20:=by omega
       have Ar:nn<=20:=by omega
       clear g1 g2 g3;go_wp2_with fail;go_loopg [56] (p.consts.length) (fun gk v56 wr=>Sy1 w2 w.heap.size p.consts gk v56 wr)
       case atStart=>exact⟨0,Ai,rfl,znq _,rfl,V.o.2.1,Keeps.refl _ _,V.o.2.2.2.2.1,V.o.2.2.2.2.2.1,fun x h=>by simp at h⟩
       case round=>
        obtain⟨i,N,rfl,hi,C,Q,M,J,D,A⟩:=hrel;have B:Below w w wr:=I.o.1.trans ((V.o.1.trans M (fun _ _ e=>e)).below I.o.1.size (fun j u e=>by omega));by_cases hin:i<kn
        .obtain⟨y,hy⟩:=yae (l:=p.consts) (k:=i) (by have:=P.o.2.1;omega)
         obtain⟨g,q,rfl,Ah,hg,X⟩:=HE.o.1.resolve_left (fun e=>by rw[e]at hy;simp at hy);obtain⟨T,hC,q0,q1,q2,q3⟩:=X i y hy;have Af:g<wr:=by have:=B.size;omega
         rw[<-B.cell (p:=⟨g,_,none⟩) hg]at q0 q1 q2 q3;have Aq:(i:Int)<kn:=by omega
         have Am:IntKind.i64.wrap ((i:Int)+1)=(i:Int)+1:=zmk _ (by omega);have CA:=zhd (ydi _ y (znc _) w.heap.size 0 N T (fun j=>j<w) _ (Q.keep (S:=fun _=>False) ((Keeps.refl _ _).alloc (.cells #[T.kind,T.n,T.s,.slice T.la T.ln T.lc] 38)) (fun f=>f)) (((hC.mono (G:=fun j=>j<w) (fun g _ hl=>hl)).keep (S:=fun _=>False) (zkb B) (fun _ _ f=>f)).keep (S:=fun _=>False) ((Keeps.refl _ _).alloc _) (fun _ _ f=>f)) (by omega) J D (by decide) (by decide));have Y:=yfI y 0 N D;have W:=yfH y 0 N;generalize fitX 0 y N=fv at*;have O:=zh7 C M Y B A hy W;clear C M Y hC Q hy X B A W r0 r1 r2 rl;go_wp2_with fail;refine CA.o.mono ?_;rintro e w5 ⟨rfl,H5⟩;have K5:=(O.o.2.1.alloc (.cells #[T.kind,T.n,T.s,.slice T.la T.ln T.lc] 38)).trans H5.o.2 (fun _ _ e=>e);have Z:=zhd K5;clear K5 CA;cases hfv:fv.1 with
         |false=>
          clear hfv;go_wp2;go_ret;exact⟨false,rfl,zhd ⟨fun h=>(by cases h),I.o.1.trans ((V.o.1.trans Z.o (fun _ _ e=>e)).below I.o.1.size (fun j u e=>by omega))⟩⟩
         |true=>
          have d:=zhd hfv;clear hfv;go_wp2_with fail;go_roundg (p.consts.length - (i+1))
          case measure=>have:=O.o.1;have:=P.o.2.1;omega
          case rel=>exact⟨i+1,fv.2,by simp,by have:=P.o.2.1;omega,rfl,H5.o.1,Z.o,O.o.2.2.1.2 d.o,O.o.2.2.1.1,yh4 O.o.2.2.2.2.1 O.o.2.2.2.2.2.1 (O.o.2.2.2.2.2.2 d.o)⟩
        .obtain rfl:i=kn:=by have:=P.o.2.1;omega
         rw[zmj (by have:=P.o.2.1;omega)]at A;have Ac:=(M.block wo rl (by have:=V.o.2.2.2.1;omega)).trans V.o.2.2.1;obtain⟨z,Al⟩:∃z:World,z=wr:=⟨_,rfl⟩;subst Al;have r2:=zca Ac 2 rfl;have rl:=zlt Ac;have L:=zh6 A B (V.o.1.trans M (fun _ _ e=>e)) Q J D;clear A B M Q J D C Ac hi;go_wp2_with fail;go_loopg [67] (p.names.length) (fun gk v67 wr=>∃j:Nat,v67= .int .i64 j/\j<=p.names.length/\gk=p.names.length - j/\wr=z)
         case atStart=>exact⟨0,rfl,znq _,rfl,rfl⟩
         case round=>
          obtain⟨m,rfl,hm,C,Aa⟩:=hrel;subst Aa;by_cases hmn:m<nn
          .obtain⟨x,hx⟩:=yae (l:=p.names) (k:=m) (by have:=P.o.2.2.1;omega)
           obtain⟨g,q,ha,X⟩:=HE.o.2.1;obtain⟨Ah,hg,Ag⟩:=X m x hx;have ha:=ha.resolve_right (fun e=>by rw[e]at hx;simp at hx);subst ha;have m0:=Ag 0 _ rfl;rw[show q+(m*sz ByteArray+0)=q+m from by simp[Cells.sz]]at m0;rw[<-L.o.2.1.cell (p:=⟨g,_,none⟩) hg]at m0;have Af:g<wr:=by have:=L.o.2.1.size;omega
           have Ao:(m:Int)<nn:=by omega
           have An:=zhd C;clear C hx Ag X;by_cases h5:(100:Int)<x.size
           .go_wp2
            go_ret;exact⟨false,rfl,zhd ⟨fun h=>(by cases h),L.o.2.1⟩⟩
           .go_wp2_with fail
            go_roundg (p.names.length - (m+1))
            case measure=>have:=An.o;have:=P.o.2.2.1;omega
            case rel=>exact⟨m+1,by simp,by have:=P.o.2.2.1;omega,rfl,rfl⟩
          .obtain rfl:m=nn:=by have:=P.o.2.2.1;omega
           clear C;go_wp2_with fail;go_roundg (1 - (0+1))
           case measure=>have:=V.o.2.2.2.2.2.2;omega
           case rel=>exact⟨0+1,N,by first|rfl|(simp;done),by omega,rfl,L.o.2.2.2.1,L.o.2.2.1,L.o.2.2.2.2.1,L.o.2.2.2.2.2,fun _=>⟨by have:=P.o.1;have:=HG.o.1;omega,L.o.1⟩⟩
   .obtain rfl:k=1:=by omega
    have L:=zh6 (A rfl) B M Q J D;clear A B M Q J D C hk hk0;go_wp2_with fail;go_loopg [78] (l.length) (fun gk v78 wr=>Sy2 wo w.heap.size l gk v78 wr)
    case atStart=>exact⟨0,Ai,rfl,znq _,rfl,L.o.2.2.2.1,Keeps.refl _ _,L.o.2.2.2.2.1,L.o.2.2.2.2.2,fun x h=>by simp at h⟩
    case round=>
     obtain⟨j,R,rfl,u,C,Q,M,J,D,A⟩:=hrel;have B:Below w w wr:=L.o.2.1.trans (M.below L.o.2.1.size (fun j u e=>by omega));by_cases hjn:j<en
     .obtain⟨U,Ab⟩:=yae (l:=l) (k:=j) (by have:=P.o.2.2.2;omega)
      obtain⟨g,q,vk,vn,vs,la,ln,lc,rfl,Ah,hg,dv,q0,q1,q2,q3,q4,q5,q6,q7,q8,q9,Ak⟩:=yc8 HE.o.2.2.1 Ab;have Af:g<wr:=by have:=B.size;omega
      rw[<-B.cell (p:=⟨g,_,none⟩) hg]at q0 q1 q2 q3 q4 q5 q6 q7 q8 q9 Ak;have Ap:(j:Int)<en:=by omega
      have Am:IntKind.i64.wrap ((j:Int)+1)=(j:Int)+1:=zmk _ (by omega);have CA:=zhd (ydi _ U.v (znc _) w.heap.size 0 R ⟨vk,vn,vs,la,ln,lc⟩ (fun j=>j<w) _ (Q.keep (S:=fun _=>False) ((Keeps.refl _ _).alloc (.cells #[U.id,U.time,U.kind,U.a,U.b,U.name,U.text,vk,vn,vs,.slice la ln lc] 40)) (fun f=>f)) (((dv.mono (G:=fun j=>j<w) (fun g _ hl=>hl)).keep (S:=fun _=>False) (zkb B) (fun _ _ f=>f)).keep (S:=fun _=>False) ((Keeps.refl _ _).alloc _) (fun _ _ f=>f)) (by omega) J D (by decide) (by decide));have Y:=yfI U.v 0 R D;have W:=yfH U.v 0 R;generalize fitX 0 U.v R=fv at*;have O:=zh7 C M Y B A Ab W;clear C M Y dv Q Ab B A W;obtain⟨z0,z1,z2,z3,z4,z5,z6,zx⟩:=U;dsimp only at q0 q1 q2 q3 q4 q5 q6 CA;have Ad:=zhd (fun W' (K:Keeps (fun j=>j=w) wo W')=>L.o.2.1.trans (K.below L.o.2.1.size (fun j u e=>by omega)));by_cases y1:(100:Int)<z5.size
      .have _u:=trivial
       go_wp2;go_ret;exact⟨false,rfl,zhd ⟨fun h=>(by cases h),(Ad.o _ (O.o.2.1.alloc _))⟩⟩
      .by_cases y2:(200:Int)<z6.size
       .have _u:=trivial
        go_wp2;go_ret;exact⟨false,rfl,zhd ⟨fun h=>(by cases h),(Ad.o _ (O.o.2.1.alloc _))⟩⟩
       .have _u:=trivial
        go_wp2_with fail;refine CA.o.mono ?_;rintro e w5 ⟨rfl,H5⟩;have Z:=zhd ((O.o.2.1.alloc (.cells #[z0,z1,z2,z3,z4,z5,z6,vk,vn,vs,.slice la ln lc] 40)).trans H5.o.2 (fun _ _ e=>e));clear CA;cases hfv:fv.1 with
        |false=>
         clear hfv;go_wp2;go_ret;exact⟨false,rfl,zhd ⟨fun h=>(by cases h),(Ad.o _ Z.o)⟩⟩
        |true=>
         have d:=zhd hfv;clear hfv;go_wp2_with fail;go_roundg (l.length - (j+1))
         case measure=>have:=O.o.1;have:=P.o.2.2.2;omega
         case rel=>exact⟨j+1,fv.2,by simp,by have:=P.o.2.2.2;omega,rfl,H5.o.1,Z.o,O.o.2.2.1.2 d.o,O.o.2.2.1.1,yh4 O.o.2.2.2.2.1 O.o.2.2.2.2.2.1 (O.o.2.2.2.2.2.2 d.o)⟩
     .obtain rfl:j=en:=by have:=P.o.2.2.2;omega
      rw[zmj (by have:=P.o.2.2.2;omega)]at A;obtain⟨z,rfl⟩:∃z:World,z=wr:=⟨_,rfl⟩;have Aj:=zh2 A B;clear A B M Q C J D u;go_wp2_with fail;go_loopg [101] 0 (fun gk v101 wr=>v101= .int .i64 0/\gk=0/\wr=z)
      case atStart=>exact⟨rfl,rfl,rfl⟩
      case round=>
       obtain⟨rfl,C,Aa⟩:=hrel;subst Aa;clear C;go_wp2;go_ret;exact⟨true,rfl,zhd ⟨fun _=>⟨L.o.1.1,by have:=P.o.2.2.2;omega,fun x hx=>yld (L.o.1.2 x hx),fun e he=>yld (Aj.o.1 e he)⟩,Aj.o.2⟩⟩
end Go.Proofs.YtpagmlndgblhhaaGreatDoor
namespace Go.Va
open Go.Own Go.RowKit
open Go.Proofs.YtpagmlndgblhhaaGreatDoor
structure Mw (p:Img)(fa:Fa)(at_:Int)(l L:List Ev):Prop where
 wf:∀x∈p.consts,x.wf
 ck:yaN p=(fa,at_,0)
 row:Rowy L
 len:L.length<=900000
 fit:∀k,1<=k->yau (L.take k)≠[]/\(yau (L.take k)).length<=30/\BegP (yaT (L.take k)) (yaw (yac p) ((yau (L.take k)).map yam))
 set:yaw (yac p) ((yau L).map yam)=(yaT L).map yap
 o:yau L≠[]/\(yau L).length<=30
theorem Mw.of {p:Img}{fa:Fa}{at_:Int}{l:List Ev}(hw:∀x∈p.consts,x.wf)(hck:yaN p=(fa,at_,0))(hl:yfp l)(hew:∀e∈l,e.v.wf)(hne:l≠[])(hn:l.length<=30)(he:(rmL (yac p) (rm0 (yac p)) l).1=0)(hok:RoK (rmL (yac p) (rm0 (yac p)) l).2.o 900000):Mw p fa at_ l (yaP 0 (rmL (yac p) (rm0 (yac p)) l).2.o):=by
 obtain⟨K,P,B,S⟩:=yc6 hw hck;have A:(yaP 0 (rmL (yac p) (rm0 (yac p)) l).2.o).length<=900000:=by rw[yes];exact hok.2
 obtain⟨F,E,D,C⟩:=ygk K P B S hl hew hne hn he rfl (by omega);exact⟨hw,hck,yjS hok (by decide),A,F,E,D,C⟩
end Go.Va
namespace Go.Proofs.YtpagmlndgblhhaaGreatDoor
open Go.RowKit Go.Own Go.Own.MapTy Go.Va Go.Sort
open Go.Own.Cells (sz enc)
set_option linter.unusedVariables false
set_option linter.unusedSimpArgs false
theorem yb6 {w:World}{b:Nat}{a0 a1 a2 a3:Value}{t:TypeId}(h:w.heap[b]? =some (.cells #[a0,a1,a2,a3] t (0,0))):w.cell? ⟨b,0,none⟩=some a0/\w.cell? ⟨b,1,none⟩=some a1/\w.cell? ⟨b,2,none⟩=some a2/\w.cell? ⟨b,3,none⟩=some a3/\b<w:=⟨by rw[zch h];rfl,by rw[zch h];rfl,by rw[zch h];rfl,by rw[zch h];rfl,zlt h⟩
def yp6 (W:World)(n:Nat)(l:List Ev)(gk:Nat)(v9:Value)(wr:World):Prop:=
 ∃i:Nat,v9= .int .i64 i/\i<=n/\gk=n - i/\Below W W wr/\∀(j:Nat) (e:Ev),j<i->l[j]? =some e->yaf e=0/\yaH e.kind=true/\(e.kind=1↔j=0)
theorem yea {F:Nat->Prop}(W:World)(ea:Option Addr)(en ec:Nat)(l:List Ev)(E:XRd F W (.slice ea en ec) l)(hw:∀e∈l,e.v.wf)(hl:l.length<=4000000):
  Calls Tryz.prog 39 #[.slice ea en ec] W (yo6 W l):=by
 have X:l.length=en:=by obtain⟨a,c,h⟩:=E.slice;cases h;rfl
 have Q:=zh4 E hw hl X;clear E hw hl X;go_in;go_wp2_with fail;go_loopg [7] en (fun gk v9 wr=>yp6 W en l gk v9 wr)
 case atStart=>exact⟨0,rfl,znq _,rfl,znv _ _,fun j e h=>by omega⟩
 case round=>
  obtain⟨i,rfl,hi,V,O,hP⟩:=hrel;by_cases hin:i<en
  .obtain⟨e,he⟩:=yae (l:=l) (k:=i) (by rw[Q.o.2.2.2];exact hin)
   obtain⟨g,Ag,vk,vn,vs,la,ln,lc,rfl,Ab,hg,dv,y0,y1,y2,y3,y4,y5,y6,y7,y8,y9,y10⟩:=yc8 Q.o.1 he;rw[<-O.cell (p:=⟨g,_,none⟩) hg]at y0 y1 y2 y3 y4 y5 y6 y7 y8 y9 y10;have Aa:g<wr:=znj hg O.size;have Ad:(i:Int)<(en:Int):=by omega
   have R:wrap64 ((i:Int)+1)=(i:Int)+1:=by have:=Q.o.2.2.1;have:=Q.o.2.2.2;unfold wrap64;omega
   have T:=Q.o.2.1 e (zmg he);have HM:=zhd (show en - (i+1)<gk by omega);have D:=zh5 O hP dv T he;clear O hP dv T he Ab V hi;obtain⟨e0,e1,P,e3,e4,e5,e6,ex⟩:=e;dsimp only at y0 y1 y2 y3 y4 y5 y6;go_upto_region 4 with(fail);refine yab ?_;intro w2 H;have B2:=zba H;have J:=zha H;clear y0 y1 y2 y3 y4 y5 y6 y7 y8 y9 y10 Aa hg H;obtain⟨y,x,u,t,s,r,n,m,d,b,x10,N,_⟩:=yaW J;obtain⟨q,z⟩:∃q,yaf ⟨e0,e1,P,e3,e4,e5,e6,ex⟩=q:=⟨_,rfl⟩;have RC:=zhd (yqi e0 e1 P e3 e4 e5 e6 ex vk vn vs la ln lc F (D.o.2.2.1.keep (S:=fun _=>False) (zkb (D.o.1.trans (B2.mono D.o.1.size))) (fun _ _ f=>f)) D.o.2.2.2.1 q z);have H2:=zh2 B2 J;clear B2 J;go_wp2_with fail;refine RC.o.mono ?_;rintro e w3 ⟨rfl,L⟩;have I:=(L.block wr N).trans H2.o.2;have M:Below wr wr w3:=H2.o.1.trans (L.mono H2.o.1.size);have Z:=D.o.1.trans (M.mono D.o.1.size);have H3:=zh3 M Z I;clear y x u t s r n m d b x10 N RC M Z L;obtain⟨y,x,u,t,s,r,n,m,d,b,x10,N,_⟩:=yaW I;clear I;by_cases hq0:q=0
   .subst hq0
    obtain⟨o,ho⟩:∃o,yaH P=o:=⟨_,rfl⟩;have OU:=zhd (ybb e0 e1 P e3 e4 e5 e6 vk vn vs la ln lc w3 o ho);have HQ:=zh2 z ho;clear z ho;go_wp2_with fail;refine OU.o.mono ?_;rintro e w4 ⟨rfl,K⟩;have A:=(K.block wr N).trans H3.o.2.2;have C:Below wr wr w4:=H3.o.1.trans (K.mono H3.o.1.size);have B:=D.o.1.trans (C.mono D.o.1.size);clear y x u t s r n m d b x10 N OU K;obtain⟨y,x,u,t,s,r,n,m,d,b,x10,N,_⟩:=yaW A;have Y:=zh2 B A;cases o with
    |false=>
     clear C B A;go_wp2;go_ret;exact⟨false,rfl,zhd ⟨fun h=>(by cases h),Y.o.1⟩⟩
    |true=>
     by_cases hk1:P=1
     .subst hk1
      by_cases hi0:i=0
      .subst hi0
       clear C B A;go_wp2_with fail;go_roundg (en - (0+1))
       case measure=>exact HM.o
       case rel=>exact⟨0+1,by first|rfl|(simp;done)|(simp[R];done),hin,rfl,Y.o.1,fun j e hj hje=>by
        obtain rfl:j=0:=by omega
        rw[D.o.2.2.2.2]at hje;cases hje;exact⟨HQ.o.1,HQ.o.2,by simp⟩⟩
      .have n0:((i:Int)==0)=false:=by rw[zna];omega
       clear C B A;go_wp2;go_ret;exact⟨false,rfl,zhd ⟨fun h=>(by cases h),Y.o.1⟩⟩
     .have n1:(P==1)=false:=by rw[zna];exact hk1
      by_cases hi0:i=0
      .subst hi0
       clear C B A hk1;go_wp2;go_ret;exact⟨false,rfl,zhd ⟨fun h=>(by cases h),Y.o.1⟩⟩
      .have n0:((i:Int)==0)=false:=by rw[zna];omega
       have HS:=zhd (show∀(j:Nat) (e:Ev),j<i+1->l[j]? =some e->yaf e=0/\yaH e.kind=true/\(e.kind=1↔j=0)from fun j e hj hje=>by
        by_cases hji:j=i
        .subst hji
         rw[D.o.2.2.2.2]at hje;cases hje;exact⟨HQ.o.1,HQ.o.2,⟨fun h=>absurd h hk1,fun h=>absurd h hi0⟩⟩
        .exact D.o.2.1 j e (by omega) hje)
       clear C B A hk1 hi0;go_wp2_with fail;go_roundg (en - (i+1))
       case measure=>exact HM.o
       case rel=>exact⟨i+1,by simp[R],hin,rfl,Y.o.1,HS.o⟩
   .have n1:(q==0)=false:=by rw[zna];exact hq0
    have n2:(q !=0)=true:=by unfold bne;rw[n1];rfl
    clear hq0 z;go_wp2;go_ret;exact⟨false,rfl,zhd ⟨fun h=>(by cases h),H3.o.2.1⟩⟩
  .obtain rfl:i=en:=by omega
   have Ah:¬(i:Int)<i:=by omega
   have G:=Q.o.2.2.2;have HZ:=zh2 O (show yfp l from fun j e hje=>hP j e (by have:=(zge hje).1;omega) hje);clear O hP V hi;by_cases hi0:i=0
   .subst hi0
    clear G;go_wp2;go_ret;exact⟨false,rfl,zhd ⟨fun h=>(by cases h),HZ.o.1⟩⟩
   .have U:0<(i:Int):=by omega
    have Ai:decide (0<(i:Int))=true:=zno U;have Af:decide (0<i)=true:=zno (by omega);have Ae:0<i:=by omega
    have Ac:=zhd (show l≠[]from fun h=>by rw[h]at G;exact hi0 G.symm);clear G hi0;go_wp2;go_ret;exact⟨true,rfl,zhd ⟨fun _=>⟨HZ.o.2,Ac.o⟩,HZ.o.1⟩⟩
end Go.Proofs.YtpagmlndgblhhaaGreatDoor
namespace Go
variable{H:Type} {enc:TypeId×Value->H}
theorem yej {a:Assume}{C:Checked}{os:Os}{f:FuncId}{fn:Func}{s:ChangeSpec}{conds:List PathCond}{apart fresh handsOn again:Bool}{X:World->Array Value->Prop}
  (hX:∀(w w':World) (args:Array Value),w.heap=w'.heap->X w args->X w' args)
  (own:ownKnob C.prog.godebug=none)(started:os.Started)(noInit:C.prog.inits.idxOf? f=none)(hfn:C.prog.funcs[f]? =some fn)
  (witness:∃(w:World) (tape:Tape) (i:Input),w.os=os/\(w.forCall tape i).Shaped C.prog/\i.vars=[]/\Input.okWide C.prog (w.forCall tape i) .any w.heap.size f i/\
    ((s.pre enc C.prog fn conds apart (w.forCall tape i).memory i.args/\X (w.forCall tape i).memory i.args)/\sizedMet enc C.prog fn (OpenSpec.ofChange s) apart (w.forCall tape i).memory i.args)/\a.holds C.prog (lone (Frame.enter C.prog f i.args .normal) [] (w.forCall tape i)))
  (contract:∀(W:World) (base:Nat) (args:Array Value) (ds gs:List (DataW H)) (before:List MemPlace),
    (∀(j:Nat) t v,fn.params[j]? =some t->args[j]? =some v->Value.okWide C.prog W .any base t v)->
    DataW.Whole enc C.prog fn.params.toList s.vars apart W args.toList ds gs before->X W args->W.ShapedOpen C.prog->
    Calls C.prog f args W fun e W'=>∃v,e= .returned v/\s.post enc C.prog fn apart fresh handsOn again W args v W'):
  ReturnsInHanded a C os f .any (fun w args=>(s.pre enc C.prog fn conds apart w args/\X w args)/\sizedMet enc C.prog fn (OpenSpec.ofChange s) apart w args) (s.post enc C.prog fn apart fresh handsOn again):=by
 refine returnsInHanded_of_calls own started noInit witness ?_;intro w tape i _ F _ G B _;obtain⟨_,_,_,I,D,_,_,_,_,A⟩:=G;have e:I=fn:=Option.some.inj (D.symm.trans hfn);subst e;obtain⟨⟨⟨ds,gs,before,K,M⟩,J⟩,L⟩:=B;have E:=DataW.Whole.of_heap (w':=w.forCall tape i) (by rfl) K;refine(contract (w.forCall tape i) w.heap.size i.args ds gs before A E (hX _ _ _ (by rfl) J) F).mono fun e W' ⟨v,he,hp⟩=> ?_;subst he;exact ChangeSpec.post_blind hp
end Go
namespace Go.Proofs.YtpagmlndgblhhaaGreatDoor
open Go.RowKit Go.Own Go.Own.MapTy Go.Va Go.Sort
theorem yqh: "*errors.errorString" = "*" ++ "errors.errorString" :=by kernel_rfl
theorem yj7 (u:TypeId)(h:Tryz.prog.typeName? 3 u=some "*errors.errorString"):u=295:=
 typeName_ptr_named (nm:= "errors.errorString") (by rw[←yqh];kernel_rfl) (by kernel_rfl) (by decide) u (by rw[←yqh];exact h)
theorem ypM:Tryz.prog.globalNamed "internal/strconv.uint64pow10" =some 5:=by kernel_rfl
theorem yqn:Tryz.prog.globalNamed "strconv.ErrSyntax" =some 3:=by kernel_rfl
theorem ypN:Tryz.prog.globalNamed "strconv.ErrRange" =some 4:=by kernel_rfl
theorem yoF {W:World}(h:W.ShapedOpen Tryz.prog):∃m,W.cell? ⟨0,0,none⟩=some (.int .i64 m):=
 cell_of_shapedOpen_int (t:=3) (zero:=#[.int .i64 0]) h (znx (by kernel_rfl)) (by kernel_rfl) (by kernel_rfl) (by kernel_rfl) (by kernel_rfl) (by kernel_rfl)
theorem ymp {P:Program}{W:World}{s:String}{g:Nat}{cs:Array Value}(hg:P.globalNamed s=some g)(h:W.var? P s=some cs):g<W:=by
 unfold World.var? at h;rw[hg]at h;by_cases hl:g<W
 .exact hl
 .have:W.heap[g]? =none:=Array.getElem?_eq_none (by omega)
  simp[this]at h
theorem yoE {W:World}(h:laidMetH Tryz.prog Rows.replayRefusesRow.laid W)(hS:W.ShapedOpen Tryz.prog):Gl Tryz.prog 6 W:=by
 rw[MakeChecks.laidMetH_plain _ _ _ (by kernel_rfl)]at h;have D:=h.tail.tail;have C:=D.tail.tail;have F:=C.tail;have E:=Lib.tabIs_of_head (zs:=Lib.pow10Tab) (k:=.u64) (n:=20) ypM (t:=298) (by kernel_rfl) Tryz.underlying298 Tryz.underlying188 (by kernel_rfl) (by kernel_rfl) D;obtain⟨K,G,A,_⟩:=laid_sentinel (ti:=250) (tp:=295) (te:=297) (ts:=9) C ypN (by kernel_rfl) Tryz.underlying250 yj7 Tryz.underlying295 Tryz.underlying297 rfl rfl Tryz.underlying9 (by kernel_rfl) (by kernel_rfl);obtain⟨L,H,B,_⟩:=laid_sentinel (ti:=250) (tp:=295) (te:=297) (ts:=9) F yqn (by kernel_rfl) Tryz.underlying250 yj7 Tryz.underlying295 Tryz.underlying297 rfl rfl Tryz.underlying9 (by kernel_rfl) (by kernel_rfl);exact⟨yoF hS,⟨_,_,B⟩,⟨_,_,A⟩,E,⟨3,4,5,yqn,ypN,ypM,by decide,by decide,by decide⟩,by decide,by have J:=ymp ypN A;have I:=ymp ypM E;omega⟩
end Go.Proofs.YtpagmlndgblhhaaGreatDoor
namespace Go.Proofs.YtpagmlndgblhhaaGreatDoor
open Go.ChangeShapes Go.WideShapes Go.Deep Go.RowKit Go.Own Go.Va
open Go.Own.Cells (sz enc)
instance:Cells (Int×Int) where
 sz:=2
 enc q:=[.int .i64 q.1,.int .i64 q.2]
 len _:=rfl
 one q v h:=by
  simp at h;rcases h with rfl|rfl<;>rfl
end Go.Proofs.YtpagmlndgblhhaaGreatDoor
namespace Go.Va
open Go.Own Go.RowKit
open Go.Proofs.YtpagmlndgblhhaaGreatDoor
def atN (l:List Ev)(n:Nat):List Nat:=(List.range n).filter (fun k=>(l[k]?.map (fun e=>ybd e.kind)).getD false)
end Go.Va
namespace Go.Proofs.YtpagmlndgblhhaaGreatDoor
open Go.RowKit Go.Own Go.Own.MapTy Go.Va Go.Sort
open Go.Own.Cells (sz enc)
set_option linter.unusedVariables false
set_option linter.unusedSimpArgs false
def yqL (w7:World)(l:List Ev)(n:Nat)(gk:Nat)(v64 v13:Value)(wr:World):Prop:=
 ∃i:Nat,v64= .int .i64 i/\i<=n/\gk=n - i/\RowAt wr 3 v13 (atN l i)/\(∀g,v13.ownBlock=some g->w7.heap.size<=g)/\Below w7 w7 wr
end Go.Proofs.YtpagmlndgblhhaaGreatDoor
