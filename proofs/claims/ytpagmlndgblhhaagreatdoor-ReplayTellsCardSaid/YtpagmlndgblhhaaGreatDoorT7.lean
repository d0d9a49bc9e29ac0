/- Parts of the proof: what the functions and the plain laws give that later parts lean on. Conditions: none beyond those that each theorem names. -/
import Derived.Test.YtpagmlndgblhhaaGreatDoorT6
set_option maxRecDepth 100000
set_option maxHeartbeats 8000000
namespace Go.Va
open Go.Own Go.RowKit
def yaq (code:List In)(k:Nat):Bool:=match code[k]? with
 |some c=>restsL c
 |none=>true
def yas (code:List In)(k:Nat):List Nat:=match code[k]? with
 |some c=>followN c k
 |none=>[]
def yba (code:List In)(k0:Nat):List Nat->List Bool->List Nat->Option (List Bool×List Nat)
 |[],seen,todo=>some (seen,todo)
 |x::r,seen,todo=>bif x==k0 then none else bif !(seen.getD x false)&& !(yaq code x)then yba code k0 r (seen.set x true) (todo++[x])else yba code k0 r seen todo
def ydt (code:List In)(k0:Nat):Nat->List Bool->List Nat->Bool
 |0,_,_=>false
 |f+1,seen,todo=>match todo with
  |[]=>false
  |k::r=>match yba code k0 (yas code k) seen r with
   |none=>true
   |some q=>ydt code k0 f q.1 q.2
def roundL (code:List In)(k0:Nat):Bool:=bif yaq code k0 then false else ydt code k0 (code.length+1) (List.replicate code.length false) [k0]
def yeq:List Bool->Nat
 |[]=>0
 |x::r=>(bif x then 0 else 1)+yeq r
theorem yer (c:In)(k:Nat):(followN c k).length<=2:=by
 unfold followN;cases(ofL c.op).1.ends
 .cases(c.op==11)
  .cases(ofL c.op).1.flow<;>simp
  .simp
 .simp
theorem yep:∀(l:List Bool) (k:Nat),l[k]? =some false->yeq (l.set k true)+1=yeq l
 |[],_,h=>by simp at h
 |y::r,0,h=>by
  simp at h;subst h;simp only[List.set_cons_zero,yeq,znm,znl];omega
 |y::r,k+1,h=>by
  have:=yep r k (by simpa using h);simp only[List.set_cons_succ,yeq];omega
theorem ybL:∀n:Nat,yeq (List.replicate n false)=n
 |0=>rfl
 |n+1=>by
  rw[List.replicate_succ,yeq,ybL n];simp;omega
structure RI (n f:Nat)(Rc:Nat->Prop)(seen:List Bool)(todo:List Nat):Prop where
 len:seen.length=n
 td:∀k∈todo,Rc k
 less:yeq seen+todo.length<=f
theorem RI.see {n f:Nat}{Rc:Nat->Prop}{seen:List Bool}{todo:List Nat}(I:RI n f Rc seen todo){x:Nat}(hx:seen[x]? =some false)(hr:Rc x):RI n f Rc (seen.set x true) (todo++[x]):=
 ⟨by simpa using I.len,fun k hk=>by
   simp only[List.mem_append,List.mem_singleton]at hk;rcases hk with hk|rfl
   .exact I.td k hk
   .exact hr,by
   have:=yep seen x hx;have:=I.less;simp only[znk,zmh];omega⟩
end Go.Va
namespace Go.Proofs.YtpagmlndgblhhaaGreatDoor
open Go.RowKit Go.Own Go.Own.MapTy Go.Va Go.Sort
open Go.Own.Cells (sz enc)
theorem ylX:(Tryz.prog.info? 4).map (fun i=>(i.zero,i.size,i.bytes))=some (some (.bool false),1,1):=by kernel_rfl
theorem ydm {F:Nat->Prop}{W:World}{ca:Option Addr}{n cc:Nat}{code:List In}(HC:RdF F W (.slice ca n cc) code){k:Nat}{c:In}(hc:code[k]? =some c):∃g off,ca=some ⟨g,off,none⟩/\g<W.heap.size/\W.cell? ⟨g,off+k*2,none⟩=some (.int .i64 c.op)/\W.cell? ⟨g,off+k*2+1,none⟩=some (.int .i64 c.a):=by
 obtain⟨rfl,D,g,off,A,C⟩:=HC.elems;obtain⟨G,E,B⟩:=C k c hc;have A:=A.resolve_right (fun e=>by rw[e]at hc;simp at hc);exact⟨g,off,A,E,B 0 _ rfl,B 1 _ rfl⟩
def ypC (W:World)(sb n:Nat)(Rc:Nat->Prop)(code:List In)(k0:Nat)(r:Bool)(gk:Nat)(v6:Value)(wr:World):Prop:=
 ∃(seen:List Bool) (todo:List Nat),RowAt wr 4 (.slice (some ⟨sb,0,none⟩) n n) seen/\RowAt wr 3 v6 todo/\(∀g,v6.ownBlock=some g->sb<g)/\RI n gk Rc seen todo/\ydt code k0 gk seen todo=r/\Below W W wr/\sb<wr.heap.size/\gk<=n+1
def ypD (W:World)(sb n:Nat)(Rc:Nat->Prop)(code:List In)(k0 f:Nat)(fv:Value)(fl:List Nat)(R:Option (List Bool×List Nat))(gk:Nat)(v41 v6:Value)(wr:World):Prop:=
 ∃(i:Nat) (seen:List Bool) (todo:List Nat),v41= .int .i64 i/\i<=fl.length/\gk=fl.length - i/\RowAt wr 4 (.slice (some ⟨sb,0,none⟩) n n) seen/\RowAt wr 3 v6 todo/\(∀g,v6.ownBlock=some g->sb<g/\fv.ownBlock≠some g)/\RI n f Rc seen todo/\yba code k0 (fl.drop i) seen todo=R/\RowAt wr 3 fv fl/\Below W W wr
theorem yjZ (b:Nat)(F:Nat->Prop)(ca:Option Addr)(n cc:Nat)(code:List In)(W:World)(q0:W.cell? ⟨b,0,none⟩=some (.slice ca n cc))(hbl:b<W)(HC:RdF F W (.slice ca n cc) code)(OK:CodeOk code)(Rc:Nat->Prop)(hcl:∀k,Rc k->k<code.length/\∀x∈yas code k,Rc x)(k0:Nat)(hk0:Rc k0)(r:Bool)(hr:roundL code k0=r):
  Calls Tryz.prog 96 #[.pointer (some ⟨b,0,none⟩),k0] W fun e w'=>e= .returned (.bool r)/\Below W W w':=by
 have Ab:=HC.elems.1;obtain⟨i0,hi,hz,hs,Ax⟩:=info_parts ylX;have Ac:=OK.len;rw[<-Ab]at Ac;obtain⟨cs,A3,Au⟩:=yeO (P:=Tryz.prog) (t:=23) Tryz.underlying23 hi hz hs Ax n (by omega);obtain⟨c,s⟩:=yac (hcl k0 hk0).1;obtain⟨g,Bc,rfl,G,m0,m1⟩:=ydm HC s;have A4:(k0:Int)<n:=by have:=(hcl k0 hk0).1;omega
 have T:=zh6 HC OK hcl hk0 Au Ab;have QQ:=zhd q0;unfold roundL yaq at hr;rw[s]at hr;dsimp only at hr;obtain⟨op,a⟩:=c;dsimp only at m0 m1;have RE:=zhd (yea op a);generalize restsL ⟨op,a⟩=rs at*;clear HC OK hcl Au Ab s hi hz hs Ax i0 hk0;go_in;go_wp2_with fail;refine(RE.o _).mono ?_;rintro e w1 ⟨rfl,Q⟩;clear RE;cases rs with
 |true=>
  simp only[znm]at hr;subst hr;go_wp2;go_ret;exact⟨rfl,Q⟩
 |false=>
  simp only[znl]at hr;have HR:=zh2 hr Q;have q0:=(Q.cell (p:=⟨b,0,none⟩) hbl).trans q0;have Ay:b<w1:=znj hbl Q.size;clear hr Q m0 m1 A4;go_wp2_with fail;obtain⟨W2,K⟩:∃W2,W2=(w1.alloc (.cells cs 4)).alloc (.cells #[k0] 3):=⟨_,rfl⟩;have B2:Below W W W2:=by rw[K];exact(HR.o.2.alloc HR.o.2.size _).alloc (by have:=HR.o.2.size;simp;omega) _
  have s2:RowAt W2 4 (.slice (some ⟨w1,0,none⟩) n n) (List.replicate n false):=by rw[K];exact RowAt.frame (w:=w1.alloc (.cells cs 4)) (RowAt.made (znb w1 _) T.o.2.2.2.2.1 (by simp) (by unfold maxLen;omega)) (fun g h=>by cases h;exact zne _ _ _ (by simp))
  have t2:RowAt W2 3 (.slice (some ⟨w1.heap.size+1,0,none⟩) 1 1) [k0]:=by rw[K];exact RowAt.made yar rfl rfl (by decide)
  have l2:w1<W2.heap.size:=by rw[K];simp;omega
  rw[<-K];have H2:=zh4 B2 s2 t2 l2;clear K B2 s2 t2 l2 q0 Ay A3;go_loopg [6] (n+1) (fun gk v6 wr=>ypC W w1.heap.size n Rc code k0 r gk v6 wr)
  case atStart=>
   refine⟨List.replicate n false,[k0],H2.o.2.1,H2.o.2.2.1,(fun g h=>by cases h;exact Nat.lt_succ_self _),⟨by simp,fun k hk=>by rw[List.mem_singleton.1 hk];exact T.o.2.2.2.1,by rw[ybL];simp⟩,?_,H2.o.1,H2.o.2.2.2,znc _⟩;have:=HR.o.1;rwa[<-T.o.2.2.2.2.2]at this
  case round=>
   obtain⟨N,todo,U,O,H,L,v,I,hl,Ae⟩:=hrel;obtain⟨ta,tc,rfl⟩:=O.slice;have Af:todo=[]\/∃k rr,todo=k::rr:=by cases todo<;>simp
   rcases Af with hto|⟨k,rr,hto⟩
   .have hr:false=r:=by
     cases gk with
     |zero=>exact v
     |succ f=>rw[hto,ydt]at v;exact v
    subst hr;subst hto;have J:=zhd I;clear U O H L v I hl Ae;go_wp2;go_ret;exact⟨rfl,J.o⟩
   .obtain⟨f,rfl⟩:∃f,gk=f+1:=⟨gk - 1,by have:=L.less;rw[hto]at this;simp at this;omega⟩
    rw[hto,ydt]at v;have hk0:todo[0]? =some k:=by rw[hto];rfl
    have Az:=L.td k (by rw[hto];exact zmf ..);obtain⟨An,Ad⟩:=T.o.2.2.1 k Az;obtain⟨c,s⟩:=yac An;have Av:=zmg s;obtain⟨tg,A9,rfl,Bf⟩:=O.addr hk0;have t0:=yd9 O hk0;rw[Nat.add_zero]at t0;have q:todo.length=rr.length+1:=by rw[hto];rfl
    obtain⟨Bm,cR,rT,oT⟩:=yez ykQ O (k:=1) (by omega);rw[show((1:Nat):Int)=1 from rfl]at cR;rw[show todo.drop 1=rr from by rw[hto];rfl]at rT;have Ba:(0:Int)<todo.length:=by omega
    have I2:RI n f Rc N rr:=⟨L.len,fun j hj=>L.td j (by rw[hto];exact zme _ hj),by have:=L.less;rw[q]at this;omega⟩;have Ar:yas code k=followN c k:=by unfold yas;rw[s]
    rw[Ar]at v Ad;have FO:=zhd (ydh (T.o.1.keep (S:=fun _=>False) (zkb I) (fun _ _ f=>f)) k c s (T.o.2.1.a0 c Av) (by have:=T.o.2.1.len;omega));have Bi:=yer c k;generalize followN c k=fl at*;have q0:=(I.cell (p:=⟨b,0,none⟩) hbl).trans QQ.o;have A8:b<wr:=znj hbl I.size;have J:=zh8 v Ad I2 U rT (fun g G=>H g (oT g G)) I (zai hl Ae);clear v Ad I2 U rT H oT I hl Ae O L hto q Ar Av s An Az hk0;go_wp2_with fail;refine FO.o.mono ?_;rintro e w5 ⟨fv,rfl,E,Aq,Ai⟩;obtain⟨fa,fc,rfl⟩:=E.slice;obtain⟨R,hR⟩:∃R,yba code k0 fl N rr=R:=⟨_,rfl⟩;have A1:=J.o.2.2.2.2.2.2.1.trans (Ai.mono J.o.2.2.2.2.2.2.1.size);have d:=zh5 E Aq Ai hR A1;clear E Aq Ai hR FO A1;go_wp2_with fail;go_loopg [41,6] (fl.length) (fun gk v41 v6 wz=>ypD W w1.heap.size n Rc code k0 f (.slice fa fl.length fc) fl R gk v41 v6 wz)
    case atStart=>
     exact⟨0,N,rr,rfl,znq _,rfl,J.o.2.2.2.1.below d.o.2.2.1,J.o.2.2.2.2.1.below d.o.2.2.1,fun g G=>⟨J.o.2.2.2.2.2.1 g G,fun e=>by have:=d.o.2.1 g e;have:=J.o.2.2.2.2.1.lt G;omega⟩,J.o.2.2.1,d.o.2.2.2.1,d.o.1,d.o.2.2.2.2⟩
    case round=>
     obtain⟨i,D,C,rfl,hi,Ap,U,O,H,L,A,E,I⟩:=hrel;by_cases hin:i<fl.length
     .obtain⟨y,hy⟩:=yac hin
      have At:fl.drop i=y::fl.drop (i+1):=by
       rw[znr (zge hy).1,(zge hy).2]
      rw[At,yba]at A;have Ah:=J.o.2.1 y (zmg hy);obtain⟨z,_⟩:=T.o.2.2.1 y Ah;obtain⟨fg,A0,rfl,Bj⟩:=E.addr hy;have z0:=yd9 E hy;have Bb:(i:Int)<fl.length:=by omega
      have Be:IntKind.i64.wrap ((i:Int)+1)=(i:Int)+1:=zmk _ (by omega);obtain⟨bx,X⟩:=yac (l:=D) (k:=y) (by rw[L.len,T.o.2.2.2.2.2];exact z);rw[List.getD_eq_getElem?_getD,X,Option.getD_some]at A;have s0:=ylA U X;rw[Nat.zero_add]at s0;have Aa:w1<wr.heap.size:=U.lt rfl;have Bd:(y:Int)<n:=by have:=T.o.2.2.2.2.2;omega
      obtain⟨c2,Ag⟩:=yac z;have q0:=(I.cell (p:=⟨b,0,none⟩) hbl).trans QQ.o;have A8:b<wr:=znj hbl I.size;obtain⟨_,_,A5,Bh,m0,m1⟩:=ydm (T.o.1.keep (S:=fun _=>False) (zkb I) (fun _ _ f=>f)) Ag;cases A5;have Al:yaq code y=restsL c2:=by unfold yaq;rw[Ag]
      rw[Al]at A;obtain⟨Aj,a2⟩:=c2;dsimp only at m0 m1;have RE:=zhd (yea Aj a2);generalize restsL ⟨Aj,a2⟩=rs at*;have B:=zh8 Ap U O H L E I (zai X Ah);clear Ap U O H L E I X Ah At hy Ag Al z;cases hyk:(y==k0)with
      |true=>
       have Ak:((y:Int)==(k0:Int))=true:=by
        rw[beq_iff_eq]at hyk|-;omega
       rw[hyk]at A;simp only[znm]at A;have hr:=J.o.1;rw[d.o.2.2.2.1,<-A]at hr;subst hr;clear hyk A;go_wp2;go_ret;exact⟨rfl,B.o.2.2.2.2.2.2.1⟩
      |false=>
       have Ak:((y:Int)==(k0:Int))=false:=by
        rw[zna]at hyk|-;omega
       rw[hyk]at A;simp only[znl]at A;clear hyk;cases bx with
       |true=>
        simp only[Bool.not_true,Bool.false_and,znl]at A;have M:=zhd A;clear A;go_wp2_with fail;go_roundg (fl.length - (i+1))
        case measure=>have:=B.o.1;omega
        case rel=>exact⟨i+1,D,C,by simp,by omega,rfl,B.o.2.1,B.o.2.2.1,B.o.2.2.2.1,B.o.2.2.2.2.1,M.o,B.o.2.2.2.2.2.1,B.o.2.2.2.2.2.2.1⟩
       |false=>
        go_wp2_with fail;refine(RE.o _).mono ?_;rintro e m ⟨rfl,Z⟩;have V:=zhd Z;have s0:=(Z.cell (p:=⟨w1,y,none⟩) Aa).trans s0;have Aa:w1<m.heap.size:=znj Aa Z.size;clear Z m0 m1 q0 z0;cases rs with
        |true=>
         simp only[Bool.not_true,Bool.not_false,Bool.true_and,znl]at A;have M:=zhd A;clear A;go_wp2_with fail;go_roundg (fl.length - (i+1))
         case measure=>have:=B.o.1;omega
         case rel=>exact⟨i+1,D,C,by simp,by omega,rfl,B.o.2.1.below V.o,B.o.2.2.1.below V.o,B.o.2.2.2.1,B.o.2.2.2.2.1,M.o,B.o.2.2.2.2.2.1.below V.o,B.o.2.2.2.2.2.2.1.trans (V.o.mono B.o.2.2.2.2.2.2.1.size)⟩
        |false=>
         simp only[Bool.not_false,Bool.and_self,znm]at A;have M:=zhd A;clear A;obtain⟨za,zc,rfl⟩:=B.o.2.2.1.slice;have Bg:C.length<=600:=by have:=B.o.2.2.2.2.1.less;have:=J.o.2.2.2.2.2.2.2.2;omega
         have S7:=(B.o.2.1.below V.o).setOne B.o.2.2.2.2.2.2.2.1 (y:=true) (j:=0) (u:=.bool true) (by decide) rfl;rw[show 0+(y*sz Bool+0)=y from by simp[Cells.sz]]at S7;have K8:Keeps (fun j=>j=w1) m (m.setCell ⟨w1,y,none⟩ (.bool true)):=Keeps.setCell (S:=fun j=>j=w1) (p:=⟨w1,y,none⟩) (Keeps.refl _ _) (.inl rfl) _;have T7:=(B.o.2.2.1.below V.o).keep K8 (fun g G e=>by have:=(B.o.2.2.2.1 g G).1;omega);have fz:∀o,m.frozen? ⟨w1,o,none⟩=false:=fun o=>(B.o.2.1.below V.o).frozen o;have AN:=zhd (show((m.setCell ⟨w1,y,none⟩ (.bool true)).alloc (.cells #[y] 3)).heap[m.heap.size]? =some (.cells (Cells.enc y).toArray 3 (0,0))from by
          have:=znb (m.setCell ⟨w1,y,none⟩ (.bool true)) (.cells #[y] 3);rwa[ycn]at this)
         have HA:=zh3 S7 T7 K8;clear S7 T7 K8;go_wp2_with (at_builtin;go_must (refine ybG (α:=Nat) ykQ rfl (.tmp 67) (.tmp 69) rfl (HA.o.2.1.alloc _) y rfl rfl AN.o (by omega) (by unfold maxLen;omega) ?_);intro a1 q1 w8 Am Ao As;have H8:=zh3 Am Ao As;clear Am Ao As);go_roundg (fl.length - (i+1))
         case measure=>have:=B.o.1;omega
         case rel=>
          have A2:∀g,(Value.slice (some ⟨w1,0,none⟩) n n).ownBlock=some g->g=w1.heap.size:=fun g h=>(Option.some.inj h).symm;have Y:=B.o.2.2.2.1;have Bk:=HR.o.2.size;have A7:∀g,(Value.slice (some ⟨fg,A0,none⟩) fl.length fc).ownBlock=some g->g<wr.heap.size:=fun g h=>B.o.2.2.2.2.2.1.lt h;have A6:=d.o.2.1;have h7:=V.o.size;have Bl:=J.o.2.2.2.2.2.2.2.1;refine⟨i+1,D.set y true,C++[y],by simp,by omega,rfl,(HA.o.1.alloc _).keep H8.o.2.1 (fun g G e=> ?_),H8.o.1,fun g G=> ?_,B.o.2.2.2.2.1.see B.o.2.2.2.2.2.2.2.1 B.o.2.2.2.2.2.2.2.2,M.o,(((B.o.2.2.2.2.2.1.below V.o).keep HA.o.2.2 (fun g G e=> ?_)).alloc _).keep H8.o.2.1 (fun g G e=> ?_),?_⟩
          .have:=A2 g G
           have:=(Y g e).1;omega
          .rcases H8.o.2.2 g G with h|h
           .exact Y g h
           .have h9:m.heap.size+1<=g:=by simpa[ycn]using h
            exact⟨by omega,fun e=>by have:=A7 g e;omega⟩
          .have:=A6 g G
           omega
          .exact(Y g e).2 G
          .exact B.o.2.2.2.2.2.2.1.trans ((V.o.mono B.o.2.2.2.2.2.2.1.size).trans ((HA.o.2.2.below (by have:=B.o.2.2.2.2.2.2.1.size;omega) (fun j hj e=>by omega)).trans (((znv _ _).alloc (by have:=B.o.2.2.2.2.2.2.1.size;simp;omega) _).trans (H8.o.2.1.below (by have:=B.o.2.2.2.2.2.2.1.size;simp;omega) (fun j hj e=>by have:=(Y j e).1;omega)))))
     .obtain rfl:i=fl.length:=by omega
      rw[zns (znc _),yba]at A;have hr:=J.o.1;rw[d.o.2.2.2.1,<-A]at hr;have M:=zh6 hr U O H L I;clear hr A U O H L I E;go_wp2_with fail;go_roundg f
      case measure=>omega
      case rel=>exact⟨D,C,M.o.2.1,M.o.2.2.1,fun g G=>(M.o.2.2.2.1 g G).1,M.o.2.2.2.2.1,M.o.1,M.o.2.2.2.2.2,M.o.2.1.lt rfl,by have:=J.o.2.2.2.2.2.2.2.2;omega⟩
end Go.Proofs.YtpagmlndgblhhaaGreatDoor
namespace Go.Va
open Go.Own Go.RowKit
def spF (code:List In):Nat->Nat->Nat
 |0,_=>0
 |f+1,k=>bif yaq code k then 1 else(yas code k).foldl (fun n x=>max n (spF code f x)) 0+1
def dnF (code:List In):Nat->Nat->Prop
 |0,_=>False
 |f+1,k=>yaq code k=true\/∀x∈yas code k,dnF code f x
theorem yes {α β:Type}{g h:α->β->α}:∀(l:List β) (a:α),(∀x∈l,∀a,g a x=h a x)->l.foldl g a=l.foldl h a
 |[],_,_=>rfl
 |x::r,a,hx=>by
  rw[List.foldl_cons,List.foldl_cons,hx x (zmf ..)];exact yes r _ (fun y hy=>hx y (zme _ hy))
theorem yey {code:List In}:∀{f g k:Nat},dnF code f k->f<=g->dnF code g k/\spF code g k=spF code f k
 |0,_,_,h,_=>h.elim
 |f+1,0,_,_,hg=>by omega
 |f+1,g+1,k,h,hg=>by
  rw[dnF]at h;rw[dnF,spF,spF];cases hr:yaq code k with
  |true=>exact⟨.inl rfl,rfl⟩
  |false=>
   have h:=h.resolve_left (fun e=>by rw[hr]at e;cases e);refine⟨.inr (fun x hx=>(yey (h x hx) (by omega:f<=g)).1),?_⟩;simp only[znl];rw[yes (h:=fun n x=>max n (spF code f x)) _ _ (fun x hx a=>by rw[(yey (h x hx) (by omega:f<=g)).2])]
theorem ynv {code:List In}{f g k:Nat}(h:dnF code f k)(h':dnF code g k):spF code f k=spF code g k:=by
 rcases Nat.le_total f g with e|e
 .exact(yey h e).2.symm
 .exact(yey h' e).2
theorem ydy {g:Nat->Nat}{b:Nat}:∀(l:List Nat) (a:Nat),a<=b->(∀x∈l,g x<=b)->l.foldl (fun n x=>max n (g x)) a<=b
 |[],_,h,_=>h
 |x::r,a,h,hx=>by
  rw[List.foldl_cons];exact ydy r _ (by have:=hx x (zmf ..);omega) (fun y hy=>hx y (zme _ hy))
theorem yfO (code:List In):∀f k:Nat,spF code f k<=f
 |0,_=>znc _
 |f+1,k=>by
  rw[spF];cases yaq code k
  .simp only[znl]
   have:=ydy (g:=spF code f) (b:=f) (yas code k) 0 (by omega) (fun x _=>yfO code f x);omega
  .simp
theorem yjR {code:List In}{f k:Nat}(h:dnF code f k):0<spF code f k:=by
 cases f with
 |zero=>exact h.elim
 |succ f=>
  rw[spF];cases yaq code k<;>simp
def KN (code:List In)(known:List Int):Prop:=∀(i:Nat) (v:Int),known[i]? =some v->0<=v/\(0<v->∃f,dnF code f i/\v=spF code f i)
theorem KN.set {code:List In}{known:List Int}(h:KN code known){f k:Nat}(hd:dnF code f k):KN code (known.set k (spF code f k)):=by
 intro i v hv;rw[List.getElem?_set]at hv;by_cases e:k=i
 .subst e
  simp only[if_pos]at hv;split at hv
  .cases hv
   exact⟨by omega,fun _=>⟨f,hd,rfl⟩⟩
  .cases hv
 .rw[if_neg e]at hv
  exact h i v hv
end Go.Va
namespace Go.Proofs.YtpagmlndgblhhaaGreatDoor
open Go.RowKit Go.Own Go.Own.MapTy Go.Va Go.Sort
open Go.Own.Cells (sz enc)
def yoE (W:World)(kv:Value)(kb n:Nat)(code:List In)(r:Nat)(e:Ending)(w':World):Prop:=
 e= .returned (.int .i64 r)/\Hid (∃known,RowAt w' 3 kv known/\known.length=n/\KN code known/\Keeps (fun j=>j=kb) W w')
def ypz (W:World)(kv:Value)(kb n:Nat)(code:List In)(f:Nat)(fv:Value)(fl:List Nat)(tot:Nat)(gk:Nat)(v35 v7:Value)(wr:World):Prop:=
 ∃(i m:Nat) (known:List Int),v35= .int .i64 i/\v7= .int .i64 m/\i<=fl.length/\gk=fl.length - i/\m<=f/\(fl.drop i).foldl (fun n x=>max n (spF code f x)) m=tot/\RowAt wr 3 kv known/\known.length=n/\KN code known/\Keeps (fun j=>j=kb) W wr/\RowAt wr 3 fv fl
theorem yls (b:Nat)(F:Nat->Prop)(ca:Option Addr)(n cc:Nat)(code:List In)(OK:CodeOk code)(Rc:Nat->Prop)(hcl:∀k,Rc k->k<code.length/\∀x∈yas code k,Rc x)(kb koff kc:Nat)(hkb:¬b=kb)(hF:∀j,F j->j≠kb):
  ∀(f k:Nat) (W:World) (known:List Int),f<=600->dnF code f k->Rc k->W.cell? ⟨b,0,none⟩=some (.slice ca n cc)->b<W->RdF F W (.slice ca n cc) code->RowAt W 3 (.slice (some ⟨kb,koff,none⟩) n kc) known->known.length=n->KN code known->
  Calls Tryz.prog 97 #[.pointer (some ⟨b,0,none⟩),k,.slice (some ⟨kb,koff,none⟩) n kc] W (yoE W (.slice (some ⟨kb,koff,none⟩) n kc) kb n code (spF code f k)):=by
 intro f
 induction f with
 |zero=>exact fun _ _ _ _ h=>h.elim
 |succ f ih=>
  intro k W known hf t Am q0 P HC RK H D;have IH:=zhd ih;have Aa:=HC.elems.1;obtain⟨Ai,I⟩:=hcl k Am;obtain⟨c,z⟩:=yac Ai;have Af:=zmg z;obtain⟨g,At,rfl,hg,m0,m1⟩:=ydm HC z;obtain⟨v,hv⟩:=yac (l:=known) (k:=k) (by omega);have s0:=yde RK hv;have J:kb<W.heap.size:=RK.lt rfl;have Ax:(k:Int)<n:=by omega
  have fz:∀o,W.frozen? ⟨kb,o,none⟩=false:=fun o=>RK.frozen o;have N:=zh7 HC RK H D t I Aa;have QQ:=zhd q0;have Q:=D k v hv;have O:yaq code k=restsL c:=by unfold yaq;rw[z]
  have L:yas code k=followN c k:=by unfold yas;rw[z]
  have Y:spF code (f+1) k=bif restsL c then 1 else(followN c k).foldl (fun n x=>max n (spF code f x)) 0+1:=by rw[spF,O,L]
  have d:restsL c=true\/∀x∈followN c k,dnF code f x:=by have:=t;rwa[dnF,O,L]at this
  rw[L]at I;have FO:=zhd (fun W' (K:Keeps (fun j=>j=kb) W W')=>ydh (HC.keep K (fun j hj e=>hF j hj e)) k c z (OK.a0 c Af) (by have:=OK.len;omega));have Ak:=yer c k;clear HC RK H D Aa Af ih;by_cases hv0:0<v
  .have G:v=((spF code (f+1) k:Nat):Int):=by
    obtain⟨f',h1,h2⟩:=Q.2 hv0;rw[h2,ynv h1 t]
   have U:=zhd G;clear G Y d t Q I O L Ak;go_in;go_wp2;go_ret;exact⟨by rw[<-U.o];rfl,zhd ⟨known,N.o.2.1,N.o.2.2.1,N.o.2.2.2.1,Keeps.refl _ _⟩⟩
  .have An:=zh2 hv Q
   obtain⟨op,a⟩:=c;dsimp only at m0 m1;have RE:=zhd (yea op a);generalize restsL ⟨op,a⟩=rs at*;generalize followN ⟨op,a⟩ k=fl at*;have HD:=zh4 Y d I t;clear t Y d I O L hv Q z;go_in;go_wp2_with fail;refine(RE.o _).mono ?_;rintro e w1 ⟨rfl,E⟩;have K1:Keeps (fun j=>j=kb) W w1:=(zkb E (S:=fun _=>False)).mono (fun _ _ f=>f.elim);have s0:=(E.cell (p:=⟨kb,koff+k,none⟩) J).trans s0;have fz:∀o,w1.frozen? ⟨kb,o,none⟩=false:=fun o=>(N.o.2.1.below E).frozen o;have q0:=(E.cell (p:=⟨b,0,none⟩) P).trans q0;have Aq:b<w1:=znj P E.size;have Aj:kb<w1.heap.size:=znj J E.size;have H1:=zh2 E K1;clear E K1 m0 m1 RE;cases rs with
   |true=>
    have G:=HD.o.1;simp only[znm]at G;have KS:=(N.o.2.2.2.1).set HD.o.2.2.2;rw[G]at KS;have R:=(N.o.2.1.below H1.o.1).setOne An.o.1 (y:=1) (j:=0) (u:=.int .i64 1) (by decide) rfl;rw[show koff+(k*sz Int+0)=koff+k from by simp[Cells.sz]]at R;have U:=zh3 G KS R;clear G KS R;go_wp2;go_ret;refine⟨by rw[U.o.1];rfl,zhd ⟨_,U.o.2.2,by simpa using N.o.2.2.1,U.o.2.1,H1.o.2.trans (Keeps.setCell (S:=fun j=>j=kb) (p:=⟨kb,koff+k,none⟩) (Keeps.refl _ _) (.inl rfl) _) (fun j _ e=>e)⟩⟩
   |false=>
    have G:=HD.o.1;simp only[znl]at G;have Ad:=HD.o.2.1.resolve_left (by simp);have U:=zh2 G Ad;clear G Ad;go_wp2_with fail;refine(FO.o _ H1.o.2).mono ?_;rintro e w5 ⟨fv,rfl,B,Ac,q⟩;obtain⟨fa,fc,rfl⟩:=B.slice;obtain⟨tot,A⟩:∃tot,fl.foldl (fun n x=>max n (spF code f x)) 0=tot:=⟨_,rfl⟩;have K5:=H1.o.2.trans ((zkb q (S:=fun _=>False)).mono (T:=fun j=>j=kb) (fun _ _ f=>f.elim)) (fun j _ e=>e);have HF:=zh5 B Ac q A K5;clear B Ac q A FO K5;go_wp2_with fail;go_loopg [35,7] (fl.length) (fun gk v35 v7 wz=>ypz W (.slice (some ⟨kb,koff,none⟩) n kc) kb n code f (.slice fa fl.length fc) fl tot gk v35 v7 wz)
    case atStart=>exact⟨0,0,known,rfl,rfl,znq _,rfl,znq _,HF.o.2.2.2.1,(N.o.2.1.below H1.o.1).below HF.o.2.2.1,N.o.2.2.1,N.o.2.2.2.1,HF.o.2.2.2.2,HF.o.1⟩
    case round=>
     obtain⟨i,m,kn,rfl,rfl,hi,Z,hm,A,hK,H,D,C,B⟩:=hrel;by_cases hin:i<fl.length
     .obtain⟨y,r⟩:=yac hin
      have Ae:fl.drop i=y::fl.drop (i+1):=by
       rw[znr (zge r).1,(zge r).2]
      rw[Ae,List.foldl_cons]at A;obtain⟨fg,Ar,rfl,Ay⟩:=B.addr r;have z0:=yd9 B r;have Ap:(i:Int)<fl.length:=by omega
      have Au:IntKind.i64.wrap ((i:Int)+1)=(i:Int)+1:=zmk _ (by omega);have V:=zmg r;have q0:=(C.cell (p:=⟨b,0,none⟩) P hkb).trans QQ.o;have Al:b<wr:=znj P C.size;have CS:=zhd (IH.o y wr kn (by omega) (U.o.2 y V) (HD.o.2.2.1 y V) q0 Al (N.o.1.keep C (fun j hj e=>hF j hj e)) hK H D);have Av:=yfO code f y;generalize spF code f y=s at*;have M:=zh4 Z A C B;clear Z A C B Ae r V hK H D;go_wp2_with fail;refine CS.o.mono ?_;rintro e w7 ⟨rfl,H7⟩;have Ab:max (m:Int) (s:Int)=((max m s:Nat):Int):=by omega
      have HM:=zhd Ab;clear Ab;go_wp2_with fail;go_roundg (fl.length - (i+1))
      case measure=>have:=M.o.1;omega
      case rel=>
       obtain⟨Ag,h1,h2,h3,h4⟩:=H7.o;exact⟨i+1,max m s,Ag,by simp,by rw[<-HM.o],by omega,rfl,by omega,M.o.2.1,h1,h2,h3,M.o.2.2.1.trans h4 (fun j _ e=>e),M.o.2.2.2.keep h4 (fun j hj e=>by have:=HF.o.2.1 j hj;omega)⟩
     .obtain rfl:i=fl.length:=by omega
      rw[zns (znc _),List.foldl_nil]at A;subst A;have G:=U.o.1;rw[HF.o.2.2.2.1]at G;have KS:=D.set HD.o.2.2.2;rw[G]at KS;obtain⟨v',X⟩:=yac (l:=kn) (k:=k) (by omega);have As:=yde hK X;have Az:∀o,wr.frozen? ⟨kb,o,none⟩=false:=fun o=>hK.frozen o;have Ao:kb<wr.heap.size:=znj J C.size;have R:=hK.setOne X (y:=((m+1:Nat):Int)) (j:=0) (u:=.int .i64 ((m+1:Nat):Int)) (by decide) rfl;rw[show koff+(k*sz Int+0)=koff+k from by simp[Cells.sz]]at R;have Ah:IntKind.i64.wrap ((m:Int)+1)=((m+1:Nat):Int):=by rw[zmk _ (by omega)];omega
      obtain⟨p,hp⟩:∃p,((m+1:Nat):Int)=p:=⟨_,rfl⟩;rw[hp]at R Ah KS;have M:=zh6 G KS R C H hp;clear G KS R C D H hp hK B Z X;go_wp2;go_ret;refine⟨by rw[M.o.1,M.o.2.2.2.2.2];rfl,zhd ⟨_,M.o.2.2.1,by simpa using M.o.2.2.2.2.1,M.o.2.1,M.o.2.2.2.1.trans (Keeps.setCell (S:=fun j=>j=kb) (p:=⟨kb,koff+k,none⟩) (Keeps.refl _ _) (.inl rfl) _) (fun j _ e=>e)⟩⟩
end Go.Proofs.YtpagmlndgblhhaaGreatDoor
namespace Go.Va
inductive Way (code:List In):Nat->Nat->Prop
 |one {p x:Nat}:yaq code p=false->x∈yas code p->Way code p x
 |more {p k x:Nat}:Way code p k->yaq code k=false->x∈yas code k->Way code p x
structure Rn (code:List In)(k0:Nat)(seen:List Bool)(todo:List Nat):Prop where
 td:∀k∈todo,k=k0\/seen[k]? =some true
 way:∀k,seen[k]? =some true->Way code k0 k/\yaq code k=false
 ok:∀k,(k=k0\/seen[k]? =some true)->k∈todo\/∀x∈yas code k,x≠k0/\(yaq code x=true\/seen[x]? =some true)
theorem ycL {code:List In}{k0 k:Nat}(hr:yaq code k0=false)(hk:k=k0\/Way code k0 k)(hkr:yaq code k=false):∀(l:List Nat) (seen:List Bool) (todo:List Nat),(∀x∈l,x∈yas code k)->(∀x∈l,x<seen.length)->
  (∀j∈todo,j=k0\/seen[j]? =some true)->(∀j:Nat,seen[j]? =some true->Way code k0 j/\yaq code j=false)->(∀j:Nat,(j=k0\/seen[j]? =some true)->j=k\/j∈todo\/∀x∈yas code j,x≠k0/\(yaq code x=true\/seen[x]? =some true))->
  match yba code k0 l seen todo with
  |none=>Way code k0 k0
  |some q=>q.1.length=seen.length/\(∀j∈q.2,j=k0\/q.1[j]? =some true)/\(∀j:Nat,q.1[j]? =some true->Way code k0 j/\yaq code j=false)/\(∀j:Nat,(j=k0\/q.1[j]? =some true)->j=k\/j∈q.2\/∀x∈yas code j,x≠k0/\(yaq code x=true\/q.1[x]? =some true))/\(∀x∈l,x≠k0/\(yaq code x=true\/q.1[x]? =some true))/\(∀j:Nat,seen[j]? =some true->q.1[j]? =some true)
 |[],seen,todo,_,_,h1,h2,h3=>⟨rfl,h1,h2,h3,(fun x hx=>by cases hx),fun _ h=>h⟩
 |x::r,seen,todo,hl,hn,h1,h2,h3=>by
  have hxf:=hl x (zmf ..);have F:=hn x (zmf ..);have D:Way code k0 x:=by
   rcases hk with rfl|hk
   .exact .one hr hxf
   .exact .more hk hkr hxf
  rw[yba];cases hx0:(x==k0)with
  |true=>
   simp only[znm];rw[beq_iff_eq]at hx0;rw[<-hx0];rw[hx0]at D|-;exact D
  |false=>
   simp only[znl];rw[zna]at hx0;cases hs:(!(seen.getD x false)&& !(yaq code x))with
   |true=>
    simp only[znm];rw[Bool.and_eq_true,Bool.not_eq_true',Bool.not_eq_true']at hs;have A:∀j,(seen.set x true)[j]? =some true↔j=x\/seen[j]? =some true:=fun j=>by
     rw[List.getElem?_set];by_cases e:x=j
     .subst e
      simp[F]
     .rw[if_neg e]
      exact⟨.inr,fun h=>h.resolve_left (fun h=>e h.symm)⟩
    have:=ycL hr hk hkr r (seen.set x true) (todo++[x]) (fun y B=>hl y (zme _ B)) (fun y B=>by rw[List.length_set];exact hn y (zme _ B))
     (fun j C=>by
       simp only[List.mem_append,List.mem_singleton]at C;rcases C with C|rfl
       .exact(h1 j C).imp id (fun h=>(A j).2 (.inr h))
       .exact .inr ((A j).2 (.inl rfl)))
     (fun j C=>by
       rcases(A j).1 C with rfl|C
       .exact⟨D,hs.2⟩
       .exact h2 j C)
     (fun j C=>by
       have E:j=x\/(j=k0\/seen[j]? =some true):=by
        rcases C with C|C
        .exact .inr (.inl C)
        .exact((A j).1 C).imp id .inr
       rcases E with rfl|E
       .exact .inr (.inl (by simp))
       .rcases h3 j E with h|h|h
        .exact .inl h
        .exact .inr (.inl (List.mem_append_left _ h))
        .exact .inr (.inr (fun y B=>⟨(h y B).1,(h y B).2.imp id (fun e=>(A y).2 (.inr e))⟩)))
    revert this;cases yba code k0 r (seen.set x true) (todo++[x])with
    |none=>exact id
    |some q=>
     rintro⟨L,K,J,I,H,G⟩;refine⟨by rw[L,List.length_set],K,J,I,fun y B=> ?_,fun j C=>G j ((A j).2 (.inr C))⟩;rcases List.mem_cons.1 B with rfl|B
     .exact⟨hx0,.inr (G y ((A y).2 (.inl rfl)))⟩
     .exact H y B
   |false=>
    simp only[znl];have:=ycL hr hk hkr r seen todo (fun y B=>hl y (zme _ B)) (fun y B=>hn y (zme _ B)) h1 h2 h3;revert this;cases yba code k0 r seen todo with
    |none=>exact id
    |some q=>
     rintro⟨L,K,J,I,H,G⟩;refine⟨L,K,J,I,fun y B=> ?_,G⟩;rcases List.mem_cons.1 B with rfl|B
     .refine⟨hx0,?_⟩
      cases hra:yaq code y with
      |true=>exact .inl rfl
      |false=>
       rw[hra,Bool.not_false,Bool.and_true,Bool.not_eq_false']at hs;rw[List.getD_eq_getElem?_getD]at hs;refine .inr (G y ?_);rw[List.getElem?_eq_getElem F]at hs|-;simpa using hs
     .exact H y B
theorem ycg (code:List In)(k0:Nat):∀(l:List Nat) (seen:List Bool) (todo:List Nat) (q:List Bool×List Nat),(∀x∈l,x<seen.length)->yba code k0 l seen todo=some q->yeq q.1+q.2.length<=yeq seen+todo.length
 |[],seen,todo,q,_,h=>by
  rw[yba]at h;cases h;exact znc _
 |x::r,seen,todo,q,hl,h=>by
  rw[yba]at h;cases hx:(x==k0)with
  |true=>rw[hx]at h;cases h
  |false=>
   rw[hx]at h;simp only[znl]at h;cases hs:(!(seen.getD x false)&& !(yaq code x))with
   |false=>
    rw[hs]at h;exact ycg code k0 r seen todo q (fun y hy=>hl y (zme _ hy)) h
   |true=>
    rw[hs]at h;have:=ycg code k0 r _ _ q (fun y hy=>by rw[List.length_set];exact hl y (zme _ hy)) h;simp only[znk,zmh]at this;rw[Bool.and_eq_true,Bool.not_eq_true']at hs;rw[List.getD_eq_getElem?_getD]at hs;have A:=hl x (zmf ..);have B:seen[x]? =some false:=by
     rw[List.getElem?_eq_getElem A]at hs|-;simpa using hs.1
    have:=yep seen x B;omega
theorem ye7 {code:List In}{k0:Nat}(hr:yaq code k0=false)(hcl:∀k x,Way code k0 k\/k=k0->x∈yas code k->x<code.length):∀(f:Nat) (seen:List Bool) (todo:List Nat),seen.length=code.length->yeq seen+todo.length<=f->Rn code k0 seen todo->(ydt code k0 f seen todo=true↔Way code k0 k0)
 |f,seen,[],hn,hf,R=>by
  have hne:¬Way code k0 k0:=by
   have I:∀k,Way code k0 k->k≠k0/\(yaq code k=true\/seen[k]? =some true):=fun k h=>by
    generalize hp:k0=p at h
    induction h with
    |one h1 h2=>subst hp;exact(R.ok _ (.inl rfl)).resolve_left (by simp) _ h2
    |more h1 h2 h3 ih=>
     subst hp;have C:=ih;have:=C.2.resolve_left (by rw[h2];simp);exact(R.ok _ (.inr this)).resolve_left (by simp) _ h3
   exact fun h=>(I k0 h).1 rfl
  have hf:ydt code k0 f seen []=false:=by cases f<;>rfl
  rw[hf];simp[hne]
 |0,seen,k::r,hn,hf,R=>by simp at hf
 |f+1,seen,k::r,hn,hf,R=>by
  rw[ydt];have hk:=R.td k (zmf ..);have A:k=k0\/Way code k0 k:=hk.imp id (fun h=>(R.way k h).1);have B:yaq code k=false:=by
   rcases hk with rfl|h
   .exact hr
   .exact(R.way k h).2
  have L:=ycL hr A B (yas code k) seen r (fun x hx=>hx) (fun x hx=>by rw[hn];exact hcl k x (A.symm) hx) (fun j hj=>R.td j (zme _ hj)) R.way (fun j hj=>by
   rcases R.ok j hj with h|h
   .rcases List.mem_cons.1 h with h|h
    .exact .inl h
    .exact .inr (.inl h)
   .exact .inr (.inr h))
  have LF:=ycg code k0 (yas code k) seen r;revert L LF;cases yba code k0 (yas code k) seen r with
  |none=>exact fun L _=>by simp[L]
  |some q=>
   rintro⟨H,G,F,E,D,J⟩ LF;refine ye7 hr hcl f q.1 q.2 (H.trans hn) ?_ ⟨G,F,fun j hj=> ?_⟩
   .have:=LF q (fun x hx=>by rw[hn];exact hcl k x (A.symm) hx) rfl
    simp only[List.length_cons]at hf;omega
   .rcases E j hj with rfl|h|h
    .exact .inr D
    .exact .inl h
    .exact .inr h
theorem yiU {code:List In}{k0:Nat}(hcl:∀k x,Way code k0 k\/k=k0->x∈yas code k->x<code.length):roundL code k0=true↔yaq code k0=false/\Way code k0 k0:=by
 unfold roundL;cases hr:yaq code k0 with
 |true=>simp
 |false=>
  simp only[znl,true_and];refine ye7 hr hcl _ _ _ (by simp) (by rw[ybL];simp) ⟨fun k hk=>.inl (List.mem_singleton.1 hk),fun k hk=> ?_,fun k hk=> ?_⟩
  .rw[List.getElem?_replicate]at hk
   split at hk<;>cases hk
  .rcases hk with rfl|hk
   .exact .inl (by simp)
   .rw[List.getElem?_replicate]at hk
    split at hk<;>cases hk
theorem Way.rests {code:List In}{p k:Nat}(h:Way code p k):yaq code p=false:=by
 induction h with
 |one h _=>exact h
 |more _ _ _ ih=>exact ih
theorem yf3:∀(n:Nat) (l:List Nat),l.Nodup->(∀x∈l,x<n)->l.length<=n
 |0,[],_,_=>znc _
 |0,x::_,_,h=>by have:=h x (zmf ..);omega
 |n+1,l,hd,h=>by
  have A:=yf3 n (l.erase n) (hd.erase n) (fun x hx=>by
   have:=(hd.mem_erase_iff).1 hx;have:=h x this.2;omega)
  by_cases hm:n∈l
  .rw[List.length_erase_of_mem hm]at A
   omega
  .rw[List.erase_of_not_mem hm]at A
   omega
theorem ydz {code:List In}{Rc:Nat->Prop}(hcl:∀k,Rc k->k<code.length/\∀x∈yas code k,Rc x)(hno:∀k,Rc k->¬Way code k k):∀(f k:Nat) (P:List Nat),Rc k->P.Nodup->(∀p∈P,p<code.length/\Way code p k)->code.length+1<=P.length+f->dnF code f k
 |0,k,P,_,hd,hP,hl=>by
  have:=yf3 _ P hd (fun p A=>(hP p A).1);omega
 |f+1,k,P,hk,hd,hP,hl=>by
  rw[dnF];cases hr:yaq code k with
  |true=>exact .inl rfl
  |false=>
   refine .inr (fun x hx=>ydz hcl hno f x (k::P) ((hcl k hk).2 x hx) (List.nodup_cons.2 ⟨fun h=>hno k hk (hP k h).2,hd⟩) (fun p A=> ?_) (by simp only[List.length_cons];omega));rcases List.mem_cons.1 A with rfl|A
   .exact⟨(hcl _ hk).1,.one hr hx⟩
   .exact⟨(hP p A).1,.more (hP p A).2 hr hx⟩
theorem ymD {code:List In}{Rc:Nat->Prop}(hcl:∀k,Rc k->k<code.length/\∀x∈yas code k,Rc x)(hno:∀k,Rc k->roundL code k=false){k:Nat}(hk:Rc k):dnF code (code.length+1) k:=by
 have A:∀{a k},Rc a->Way code a k->Rc k:=fun{a k} ha h=>by
  induction h with
  |one _ h2=>exact(hcl _ ha).2 _ h2
  |more _ _ h3 ih=>exact(hcl _ ih).2 _ h3
 refine ydz hcl (fun j hj hw=> ?_) _ k [] hk List.nodup_nil (fun p hp=>by cases hp) (by simp);have:=(yiU (fun k x h hx=>by
  have hk:Rc k:=h.elim (fun h=>A hj h) (fun h=>by rw[h];exact hj);exact(hcl _ ((hcl _ hk).2 _ hx)).1)).2 ⟨hw.rests,hw⟩
 rw[hno j hj]at this;cases this
def DoneAt (code:List In)(hs:List Int)(most:Int)(k:Nat)(h:Int):Prop:=
 ∃c,code[k]? =some c/\0<=h - yaC c/\h - yaC c+(ofL c.op).1.o<=32/\h - yaC c+(ofL c.op).1.o<=most/\∀x∈followN c k,x<code.length/\hs[x]? =some (h - yaC c+(ofL c.op).1.o)
structure Gr (st st':KSt):Prop where
 keep:∀(j:Nat) (y:Int),st.heights[j]? =some y->0<=y->st'.heights[j]? =some y
 most:st.most<=st'.most
 len:st'.heights.length=st.heights.length
 td:∀j∈st.todo,j∈st'.todo
 new:∀(j:Nat) (y:Int),st'.heights[j]? =some y->0<=y->st.heights[j]? =some y\/j∈st'.todo
theorem Gr.refl (st:KSt):Gr st st:=⟨fun _ _ h _=>h,Int.le_refl _,rfl,fun _ h=>h,fun _ _ h _=>.inl h⟩
theorem Gr.trans {a b c:KSt}(h:Gr a b)(g:Gr b c):Gr a c:=
 ⟨fun j y e l=>g.keep j y (h.keep j y e l) l,Int.le_trans h.most g.most,g.len.trans h.len,fun j hj=>g.td j (h.td j hj),fun j y e l=>by
   rcases g.new j y e l with B|B
   .rcases h.new j y B l with A|A
    .exact .inl A
    .exact .inr (g.td j A)
   .exact .inr B⟩
theorem DoneAt.grow {code:List In}{st st':KSt}(OK:CodeOk code)(g:Gr st st'){k:Nat}{h:Int}(d:DoneAt code st.heights st.most k h):DoneAt code st'.heights st'.most k h:=by
 obtain⟨c,B,E,D,C,A⟩:=d;have F:=(OK.o c (zmg B)).1;exact⟨c,B,E,D,Int.le_trans C g.most,fun x hx=>⟨(A x hx).1,g.keep x _ (A x hx).2 (by omega)⟩⟩
theorem yit {n k:Nat}{h:Int}{st:KSt}(hn:st.heights.length=n)(h0:0<=h):Gr st (comeL n k h st).2/\((comeL n k h st).1=0->k<n/\(comeL n k h st).2.heights[k]? =some h)/\((comeL n k h st).1=0\/(comeL n k h st).1=131\/(comeL n k h st).1=132):=by
 unfold comeL;by_cases hk:n<=k
 .rw[zno hk]
  simp only[znm];exact⟨Gr.refl _,fun e=>by simp at e,by simp⟩
 .rw[znd hk]
  simp only[znl];obtain⟨x,B⟩:∃x,st.heights[k]? =some x:=⟨st.heights[k]'(by omega),by simp⟩;rw[List.getD_eq_getElem?_getD,B,Option.getD_some];by_cases hl:x<0
  .rw[zno hl]
   simp only[znm];have C:(st.heights.set k h)[k]? =some h:=List.getElem?_set_self (by omega);refine⟨⟨fun j y e l=> ?_,Int.le_refl _,by simp,fun j hj=>List.mem_append_left _ hj,fun j y e l=> ?_⟩,fun _=>⟨by omega,C⟩,by simp⟩
   .show(st.heights.set k h)[j]? =some y
    rw[List.getElem?_set_ne]
    .exact e
    .intro A
     subst A;rw[B]at e;cases e;omega
   .by_cases A:k=j
    .subst A
     exact .inr (by simp)
    .left
     have e:(st.heights.set k h)[j]? =some y:=e;rwa[List.getElem?_set_ne A]at e
  .rw[znd hl]
   simp only[znl];cases hxh:(x !=h)with
   |true=>exact⟨Gr.refl _,fun e=>by simp at e,by simp⟩
   |false=>
    have:x=h:=by simpa using hxh
    subst this;exact⟨Gr.refl _,fun _=>⟨by omega,B⟩,by simp⟩
theorem ygj {n:Nat}{h:Int}(h0:0<=h):∀(l:List Nat) {st:KSt},st.heights.length=n->Gr st (ybW n h l st).2/\((ybW n h l st).1=0->∀x∈l,x<n/\(ybW n h l st).2.heights[x]? =some h)/\((ybW n h l st).1=0\/(ybW n h l st).1=131\/(ybW n h l st).1=132)
 |[],st,_=>⟨Gr.refl _,(fun _ x hx=>by cases hx),.inl rfl⟩
 |x::r,st,hn=>by
  obtain⟨g,hg,hc⟩:=yit (k:=x) hn h0;rw[ybW];cases hz:((comeL n x h st).1 !=0)with
  |true=>
   simp only[znm];exact⟨g,fun e=>by rw[e]at hz;simp at hz,hc⟩
  |false=>
   simp only[znl];have A:(comeL n x h st).1=0:=by simpa using hz
   obtain⟨E,C,D⟩:=ygj h0 r (st:=(comeL n x h st).2) (g.len.trans hn);refine⟨g.trans E,fun e y B=> ?_,D⟩;rcases List.mem_cons.1 B with rfl|B
   .exact⟨(hg A).1,E.keep _ _ (hg A).2 h0⟩
   .exact C e y B
theorem ylq {code:List In}{c:In}{k:Nat}{h:Int}{st:KSt}(OK:CodeOk code)(hc:code[k]? =some c)(hn:st.heights.length=code.length)(hh:st.heights[k]? =some h):
  Gr st (stepL code.length c k st).2/\((stepL code.length c k st).1=0->DoneAt code (stepL code.length c k st).2.heights (stepL code.length c k st).2.most k h)/\((stepL code.length c k st).1=0\/(stepL code.length c k st).1=131\/(stepL code.length c k st).1=132):=by
 have D:=(OK.o c (zmg hc)).1;unfold stepL;rw[List.getD_eq_getElem?_getD,hh,Option.getD_some];by_cases h1:h - yaC c<0
 .rw[zno h1]
  exact⟨Gr.refl _,fun e=>by simp at e,by simp⟩
 .rw[znd h1]
  simp only[znl];by_cases h2:32<h - yaC c+(ofL c.op).1.o
  .rw[zno h2]
   exact⟨Gr.refl _,fun e=>by simp at e,by simp⟩
  .rw[znd h2]
   simp only[znl];obtain⟨m,hm⟩:∃m,h - yaC c+(ofL c.op).1.o=m:=⟨_,rfl⟩;rw[hm]at h2|-;have C:Gr st {st with most:=max st.most m}:=⟨fun _ _ h _=>h,by show st.most<=max st.most m;omega,rfl,fun _ h=>h,fun _ _ h _=>.inl h⟩;obtain⟨g,B,A⟩:=ygj (n:=code.length) (h:=m) (by omega) (followN c k) (st:={st with most:=max st.most m}) hn;refine⟨C.trans g,fun e=>⟨c,hc,by omega,by omega,?_,?_⟩,A⟩
   .rw[hm]
    have:=g.most;have:max st.most m<=_:=this;omega
   .rw[hm]
    exact B e
theorem yix {code:List In}(OK:CodeOk code):∀(f:Nat) (st:KSt),Inv code.length f st->(∀(k:Nat) (h:Int),st.heights[k]? =some h->0<=h->k∈st.todo\/DoneAt code st.heights st.most k h)->
  ((yiy code f st).1.2=0->(yiy code f st).1.1= -1/\(∀(k:Nat) (h:Int),(yiy code f st).2.heights[k]? =some h->0<=h->DoneAt code (yiy code f st).2.heights (yiy code f st).2.most k h)/\(∀(j:Nat) (y:Int),st.heights[j]? =some y->0<=y->(yiy code f st).2.heights[j]? =some y)/\Inv code.length code.length (yiy code f st).2)
 |0,st,I,D=>by
  have ht:st.todo=[]:=by
   have:=I.less;exact List.eq_nil_of_length_eq_zero (by omega)
  rw[yiy];refine fun _=>⟨rfl,fun k h e l=> ?_,fun _ _ h _=>h,⟨I.len,I.all,I.todo,by have:=I.less;show yjd st.heights+st.todo.length<=_;omega,I.m0,I.m1⟩⟩;have:=D k h e l;rw[ht]at this;exact this.resolve_left (by simp)
 |f+1,st,I,D=>by
  rw[yiy];cases ht:st.todo with
  |nil=>
   refine fun _=>⟨rfl,fun k h e l=> ?_,fun _ _ h _=>h,⟨I.len,I.all,I.todo,?_,I.m0,I.m1⟩⟩
   .have:=D k h e l
    rw[ht]at this;exact this.resolve_left (by simp)
   .have:∀l:List Int,yjd l<=l.length:=fun l=>by
     induction l with
     |nil=>exact znc _
     |cons x r ih=>rw[yjd,List.length_cons];cases decide (x<0)<;>simp<;>omega
    have:=this st.heights;have:=I.len;rw[ht];simp only[List.length_nil];omega
  |cons k r=>
   obtain⟨h,G,R⟩:=I.todo k (by rw[ht];exact zmf ..);have F:k<code.length:=by have:=(zge G).1;have:=I.len;omega
   have B:code[k]? =some code[k]:=List.getElem?_eq_getElem F;generalize code[k]=c at B;dsimp only;rw[B];dsimp only;have J:=OK.o c (zmg B);obtain⟨g,K,L⟩:=ylq (c:=c) (st:={st with todo:=r}) OK B I.len G;have Q:Inv code.length f (stepL code.length c k {st with todo:=r}).2:=yfN (k:=k) (c:=c) (f:=f) ⟨I.len,I.all,fun j hj=>I.todo j (by rw[ht];exact zme _ hj),by have:=I.less;rw[ht]at this;simp only[List.length_cons]at this;show yjd st.heights+r.length<=f;omega,I.m0,I.m1⟩ J.1;cases hz:((stepL code.length c k {st with todo:=r}).1 !=0)with
   |true=>
    simp only[znm];exact fun e=>by rw[e]at hz;simp at hz
   |false=>
    simp only[znl];have E:(stepL code.length c k {st with todo:=r}).1=0:=by simpa using hz
    intro e;obtain⟨P,O,N,M⟩:=yix OK f _ Q (fun j y e l=>by
     rcases g.new j y e l with A|A
     .by_cases hjk:j=k
      .subst hjk
       rw[G]at A;cases A;exact .inr (K E)
      .rcases D j y A l with C|C
       .rw[ht]at C
        rcases List.mem_cons.1 C with H|H
        .exact absurd H hjk
        .exact .inl (g.td j H)
       .exact .inr (DoneAt.grow OK (st:={st with todo:=r}) g C)
     .exact .inl A) e
    exact⟨P,O,fun j y e l=>N j y (g.keep j y e l) l,M⟩
structure Walked (code:List In)(st:KSt):Prop where
 inv:Inv code.length code.length st
 zero:st.heights[0]? =some 0
 done:∀(k:Nat) (h:Int),st.heights[k]? =some h->0<=h->DoneAt code st.heights st.most k h
theorem yfL {code:List In}(OK:CodeOk code)(h:(walkL code).1.2=0):(walkL code).1.1= -1/\Walked code (walkL code).2:=by
 unfold walkL at h|-;dsimp only at h|-;have I:=yeB (n:=code.length) (f:=code.length) (k:=0) (h:=0) (st:=⟨List.replicate code.length (-1),[],0⟩) ⟨by simp,(fun x hx=>by rw[(List.mem_replicate.1 hx).2];omega),(fun k hk=>by cases hk),(by rw[yb2];simp),Int.le_refl 0,(by show(0:Int)<=32;decide)⟩ (by decide) (by decide);obtain⟨g,C,H⟩:=yit (n:=code.length) (k:=0) (h:=0) (st:=⟨List.replicate code.length (-1),[],0⟩) (by simp) (by decide);generalize comeL code.length 0 0 ⟨List.replicate code.length (-1),[],0⟩=q at*;cases hz:(q.1 !=0)with
 |true=>
  rw[hz]at h;simp only[znm]at h;rw[h]at hz;simp at hz
 |false=>
  rw[hz]at h;simp only[znl]at h|-;have B:q.1=0:=by simpa using hz
  obtain⟨G,F,E,D⟩:=yix OK (code.length+1) q.2 ⟨I.len,I.all,I.todo,by have:=I.less;omega,I.m0,I.m1⟩ (fun k y e l=>by
   rcases g.new k y e l with A|A
   .simp only[List.getElem?_replicate]at A
    split at A
    .cases A
     omega
    .cases A
   .exact .inl A) h
  exact⟨G,D,E 0 0 (C B).2 (Int.le_refl _),F⟩
theorem Walked.closed {code:List In}{st:KSt}(w:Walked code st)(OK:CodeOk code):∀k,(∃h,st.heights[k]? =some h/\0<=h)->k<code.length/\∀x∈yas code k,∃h,st.heights[x]? =some h/\0<=h:=by
 rintro k ⟨h,B,D⟩;obtain⟨c,A,H,G,F,C⟩:=w.done k h B D;have E:=(OK.o c (zmg A)).1;refine⟨(zge A).1,fun x hx=> ?_⟩;unfold yas at hx;rw[A]at hx;exact⟨_,(C x hx).2,by omega⟩
def ycH (code:List In):Nat->List Int->Option Nat
 |_,[]=>none
 |k,h::r=>bif decide (0<=h)&&roundL code k then some k else ycH code (k+1) r
theorem ycO {code:List In}:∀(l:List Int) (k:Nat),ycH code k l=none->∀(j:Nat) (h:Int),l[j]? =some h->0<=h->roundL code (k+j)=false
 |[],_,_,j,h,hj,_=>by simp at hj
 |y::r,k,hn,j,h,hj,h0=>by
  rw[ycH]at hn;cases hc:(decide (0<=y)&&roundL code k)with
  |true=>rw[hc]at hn;cases hn
  |false=>
   rw[hc]at hn;cases j with
   |zero=>
    simp at hj;subst hj;rw[zno h0]at hc;simpa using hc
   |succ j=>
    have:=ycO r (k+1) hn j h (by simpa using hj) h0;rwa[show k+1+j=k+(j+1) by omega]at this
def ycK (code:List In):Nat->List Int->Nat->Nat
 |_,[],m=>m
 |k,h::r,m=>ycK code (k+1) r (bif decide (0<=h)then max m (spF code (code.length+1) k)else m)
structure Fa where
 heights:List Int
 most:Int
 span:Int
def yn8:Fa:=⟨[],0,0⟩
theorem ycy (op:Int):0<=(ofL op).1.i/\(ofL op).1.i<=2/\0<=(ofL op).1.o/\(ofL op).1.o<=2:=by
 by_cases h:0<=op/\op<=32
 .obtain⟨k,rfl⟩:∃k:Nat,op=k:=⟨op.toNat,by omega⟩
  have H:∀k:Fin 33,0<=(ofL (k.1:Int)).1.i/\(ofL (k.1:Int)).1.i<=2/\0<=(ofL (k.1:Int)).1.o/\(ofL (k.1:Int)).1.o<=2:=by decide+kernel
  exact H ⟨k,by omega⟩
 .have e:∀j:Int,0<=j->j<=32->(op==j)=false:=fun j h1 h2=>by rw[zna];omega
  simp only[ofL,ycF,e 0 (by decide) (by decide),e 1 (by decide) (by decide),e 2 (by decide) (by decide),e 3 (by decide) (by decide),e 4 (by decide) (by decide),e 5 (by decide) (by decide),e 6 (by decide) (by decide),e 7 (by decide) (by decide),e 8 (by decide) (by decide),e 9 (by decide) (by decide),e 10 (by decide) (by decide),e 11 (by decide) (by decide),e 12 (by decide) (by decide),e 13 (by decide) (by decide),e 14 (by decide) (by decide),e 15 (by decide) (by decide),e 16 (by decide) (by decide),e 17 (by decide) (by decide),e 18 (by decide) (by decide),e 19 (by decide) (by decide),e 20 (by decide) (by decide),e 21 (by decide) (by decide),e 22 (by decide) (by decide),e 23 (by decide) (by decide),e 24 (by decide) (by decide),e 25 (by decide) (by decide),e 26 (by decide) (by decide),e 27 (by decide) (by decide),e 28 (by decide) (by decide),e 29 (by decide) (by decide),e 30 (by decide) (by decide),e 31 (by decide) (by decide),e 32 (by decide) (by decide),znl];decide
end Go.Va
namespace Go.Proofs.YtpagmlndgblhhaaGreatDoor
open Go.RowKit Go.Own Go.Own.MapTy Go.Va Go.Sort
open Go.Own.Cells (sz enc)
def yaY (p:Img):Fa×Int×Int:=
 bif imgL p !=0 then(yn8,-1,imgL p)else
 bif (walkL p.code).1.2 !=0 then(yn8,(walkL p.code).1)else
 match ycH p.code 0 (walkL p.code).2.heights with
 |some k=>(yn8,(k:Int),133)
 |none=>(⟨(walkL p.code).2.heights,(walkL p.code).2.most,(ycK p.code 0 (walkL p.code).2.heights 0:Nat)⟩,-1,0)
theorem ymX {op:Int}(h:(op==29)=true):(ofL op).1.operand=5:=by
 rw[beq_iff_eq]at h;subst h;rfl
theorem yeC {p:Img}(h:imgL p=0):CodeOk p.code:=by
 obtain⟨I,B,H,G,F,E,_,_,A⟩:=yb3 h;refine⟨B,fun c hc=>(A c hc).2.1,fun c hc=> ?_,fun c hc=>⟨(ycy c.op).2.2.1,(ycy c.op).2.2.2⟩⟩;have C:=ycy c.op;obtain⟨_,D,hm⟩:=A c hc;unfold yaC;cases h29:(c.op==29)with
 |false=>simp only[znl];omega
 |true=>
  rw[ymX h29]at hm;have:mostL p 5=17:=rfl;simp only[znm];omega
end Go.Proofs.YtpagmlndgblhhaaGreatDoor
