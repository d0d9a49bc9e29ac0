/- Parts of the proof: what the functions and the plain laws give that later parts lean on. Conditions: none beyond those that each theorem names. -/
import Derived.Test.YtpagmlndgblhhaaGreatDoorW22
set_option maxRecDepth 100000
set_option maxHeartbeats 8000000
namespace Go.Va
open Go.Own Go.RowKit
open Go.Proofs.YtpagmlndgblhhaaGreatDoor
set_option linter.unusedVariables false
theorem yiU {S L:List Ev}(h:S=(yaT L).map yap){x:Ev}(hx:ybd x.kind=true):yau (L++[x])=yau L/\¬BegP (yaT (L++[x])) S:=by
 have B:yaT [x]=[x]:=by unfold yaT;rw[List.filter_cons,if_pos hx];rfl
 have A:yau [x]=[]:=by unfold yau;rw[List.filter_cons,if_neg (by rw[yc4 hx];decide)];rfl
 refine⟨by rw[ybf,A,List.append_nil],?_⟩;rintro⟨k,hk⟩;have:=congrArg List.length hk;rw[h,ybK,B]at this;simp at this
theorem yg4 {S pre post:List Ev}{e x:Ev}(h:S=(yaT (pre++e::post)).map yap)(he:ybd e.kind=true)(hk:x.kind=e.kind)(hx:yap x≠yap e):yau (pre++x::post)=yau (pre++e::post)/\¬BegP (yaT (pre++x::post)) S:=by
 have A:∀y:Ev,y.kind=e.kind->yaT (pre++y::post)=yaT pre++y::yaT post/\yau (pre++y::post)=yau pre++yau post:=fun y hy=>by
  have hm:ybd y.kind=true:=by rw[hy];exact he
  rw[ybK,ybf];refine⟨congrArg _ ?_,congrArg _ ?_⟩
  .unfold yaT;rw[List.filter_cons,if_pos hm]
  .unfold yau;rw[List.filter_cons,if_neg (by rw[yc4 hm];decide)]
 refine⟨by rw[(A x hk).2,(A e rfl).2],?_⟩;rw[(A x hk).1,h,(A e rfl).1];rintro⟨k,B⟩;rw[ygn]at B;simp only[List.map_append,List.map_cons,List.append_assoc,List.cons_append]at B;exact hx (List.cons.inj (List.append_cancel_left B)).1.symm
theorem ymn (l:List Ev)(n:Nat){e:Ev}(h:l[n]? =some e):atN l (n+1)=atN l n++(bif ybd e.kind then[n]else[]):=by
 unfold atN;rw[List.range_succ,List.filter_append]
 congr 1
 rw[List.filter_cons,h];show(if ybd e.kind=true then _ else _)=_;cases ybd e.kind<;>rfl
theorem ynU (l:List Ev)(n:Nat):(atN l n).length<=n:=by
 have:=List.length_filter_le (fun k=>(l[k]?.map (fun e=>ybd e.kind)).getD false) (List.range n);rw[List.length_range]at this;exact this
theorem ynV {l:List Ev}{n i k:Nat}(h:(atN l n)[i]? =some k):k<n/\∃e,l[k]? =some e/\ybd e.kind=true:=by
 obtain⟨B,A⟩:=List.mem_filter.1 (zmg h);refine⟨List.mem_range.1 B,?_⟩;cases he:l[k]? with
 |none=>rw[he]at A;cases A
 |some e=>rw[he]at A;exact⟨e,rfl,A⟩
end Go.Va
namespace Go.Proofs.YtpagmlndgblhhaaGreatDoor
open Go.RowKit Go.Own Go.Own.MapTy Go.Va Go.Sort
open Go.Own.Cells (sz enc)
set_option linter.unusedVariables false
set_option linter.unusedSimpArgs false
theorem XRow.setF {F:Nat->Prop}{w:World}{g off n cap:Nat}{l:List Ev}(X:XRow (fun q=>F q/\¬(Value.slice (some ⟨g,off,none⟩) n cap).ownBlock=some q) w 40 (.slice (some ⟨g,off,none⟩) n cap) l){i:Nat}{e:Ev}(he:l[i]? =some e)(m:Nat)(u:Int)(x:Ev)(hm:(m=1/\x={e with time:=u})\/(m=3/\x={e with a:=u})):
  XRow (fun q=>F q/\¬(Value.slice (some ⟨g,off,none⟩) n cap).ownBlock=some q) (w.setCell ⟨g,off+i*11+m,none⟩ (.int .i64 u)) 40 (.slice (some ⟨g,off,none⟩) n cap) (l.set i x):=by
 obtain⟨P,M,C⟩:=X.cells;obtain⟨k,hk⟩:=yae (l:=P) (k:=i) (by rw[C.1];exact(zge he).1);have B:EvF _ w k e:=C.2 i k e hk he;have L:(Value.slice (some ⟨g,off,none⟩) n cap).ownBlock=some g:=rfl;have K:Keeps (fun q=>q=g) w (w.setCell ⟨g,off+i*11+m,none⟩ (.int .i64 u)):=Keeps.setCell (S:=fun q=>q=g) (p:=⟨g,_,none⟩) (Keeps.refl _ _) (.inl rfl) _;rcases hm with⟨rfl,rfl⟩|⟨rfl,rfl⟩
 .have A:=M.setOne (i:=i) (j:=1) (u:=.int .i64 u) (y:=({k with time:=u}:EC)) hk (by decide) rfl
  refine XRow.of A ((C.set i (x:={e with time:=u}) (c:={k with time:=u}) ?_).keep K (fun q hq e=>hq.2 (e▸L)));obtain⟨J,O,I,N,H,G,E,D⟩:=B;exact⟨J,rfl,I,N,H,G,E,D⟩
 .have A:=M.setOne (i:=i) (j:=3) (u:=.int .i64 u) (y:=({k with a:=u}:EC)) hk (by decide) rfl
  refine XRow.of A ((C.set i (x:={e with a:=u}) (c:={k with a:=u}) ?_).keep K (fun q hq e=>hq.2 (e▸L)));obtain⟨J,O,I,N,H,G,E,D⟩:=B;exact⟨J,O,I,rfl,H,G,E,D⟩
end Go.Proofs.YtpagmlndgblhhaaGreatDoor
namespace Go.Va
open Go.Own Go.RowKit
open Go.Proofs.YtpagmlndgblhhaaGreatDoor
set_option linter.unusedVariables false
theorem yjl {p:Img}{fa:Fa}{at_:Int}(hw:∀x∈p.consts,x.wf)(hck:yaN p=(fa,at_,0)){l:List Ev}(hl:yfp l)(hew:∀e∈l,e.v.wf)(hn:l.length<=30)(he:(rmL (yac p) (rm0 (yac p)) l).1=0):∀e∈yaP 0 (rmL (yac p) (rm0 (yac p)) l).2.o,0<=e.time/\e.time<=4611686018427387903:=by
 obtain⟨K,P,A,S⟩:=yc6 hw hck;obtain⟨b,n,R,_⟩:=yka K P A l (rm0 (yac p)) ⟨[],false⟩ 0 (ry0 S) rfl rfl (fun i e hi=>by
  obtain⟨G,F,C⟩:=hl i e hi;exact⟨G,F,⟨fun h=>⟨rfl,C.1 h⟩,fun h=>C.2 h.2⟩,hew e (zmg hi)⟩) (by omega) he
 intro e he;have hm:yap e∈(yaP 0 (rmL (yac p) (rm0 (yac p)) l).2.o).map yap:=List.mem_map_of_mem he;rw[yfM,R.o]at hm;obtain⟨f,E,B⟩:=List.mem_map.1 hm;have D:f.time=e.time:=(congrArg Ev.time B:(yap f).time=(yap e).time);rw[<-D];exact(ya0 (R.bk.evs f E).1).1
theorem yj2 {l:List Ev}{k:Nat}(x:Ev)(h:k<l.length):l.set k x=l.take k++x::l.drop (k+1):=by rw[List.set_eq_take_append_cons_drop,if_pos h]
theorem ylC {l:List Ev}{k:Nat}{e:Ev}(h:l[k]? =some e):l=l.take k++e::l.drop (k+1):=by
 obtain⟨hk,A⟩:=zge h;rw[<-yj2 e hk,<-A,List.set_getElem_self]
theorem Mw.more {p:Img}{fa:Fa}{at_:Int}{l L:List Ev}(M:Mw p fa at_ l L){x:Ev}(hx:ybd x.kind=true):yau (L++[x])≠[]/\(yau (L++[x])).length<=30/\¬BegP (yaT (L++[x])) (yaw (yac p) ((yau (L++[x])).map yam)):=by
 have h:=yiU (S:=yaw (yac p) ((yau L).map yam)) M.set hx;rw[h.1];exact⟨M.o.1,M.o.2,h.2⟩
theorem Mw.other {p:Img}{fa:Fa}{at_:Int}{l L:List Ev}(M:Mw p fa at_ l L){k:Nat}{e x:Ev}(he:L[k]? =some e)(hm:ybd e.kind=true)(hk:x.kind=e.kind)(hx:yap x≠yap e):yau (L.set k x)≠[]/\(yau (L.set k x)).length<=30/\¬BegP (yaT (L.set k x)) (yaw (yac p) ((yau (L.set k x)).map yam)):=by
 have B:=(zge he).1;have A:=ylC he;have C:yaw (yac p) ((yau L).map yam)=(yaT (L.take k++e::L.drop (k+1))).map yap:=by rw[<-A];exact M.set
 have h:=yg4 C hm hk hx;rw[<-A]at h;rw[yj2 x B,h.1];exact⟨M.o.1,M.o.2,h.2⟩
end Go.Va
namespace Go.Proofs.YtpagmlndgblhhaaGreatDoor
open Go.RowKit Go.Own Go.Own.MapTy Go.Va Go.Sort
open Go.Own.Cells (sz enc)
set_option linter.unusedVariables false
set_option linter.unusedSimpArgs false
theorem ygw {N:Nat}{W:World}(G:Gl Tryz.prog N W){i:IC}{p:Img}{F:Nat->Prop}(H:IAt F W i p)(hw:∀x∈p.consts,x.wf){fa:Fa}{at_:Int}(hck:yaN p=(fa,at_,0)){a:Option Addr}{n c:Nat}{l:List Ev}(E:XRd (fun q=>q<W) W (.slice a n c) l)(hr:Rowy l)(ho:yau l≠[]/\(yau l).length<=30/\¬BegP (yaT l) (yaw (yac p) ((yau l).map yam))):
  Calls Tryz.prog 41 #[.agg #[.slice i.ca i.cn i.cc,.slice i.ka i.kn i.kc,.slice i.na i.nn i.nc,i.pl],.slice a n c] W (fun e w'=>e= .returned (.int .i64 150)/\Below W W w'):=
 ycD F W G i p H hw fa at_ hck a n c l E hr ho.2.1 150 (fun h=>absurd h ho.1) (fun _ h=>absurd h ho.2.2) (fun _ _=>rfl)
theorem yhw {N:Nat}(i:IC)(p:Img)(W:World)(G:Gl Tryz.prog N W)(H:IAt (fun j=>j<W) W i p)(hb64:Val.all.allL B64 p.consts)(ea:Option Addr)(en ec:Nat)(l:List Ev)(E:XRd (fun j=>j<W) W (.slice ea en ec) l)(he:∀e∈l,e.v.all B64)(x0 x1:Int):
  Calls Tryz.prog 8 #[.agg #[.slice i.ca i.cn i.cc,.slice i.ka i.kn i.kc,.slice i.na i.nn i.nc,i.pl],.slice ea en ec,.agg #[x0,x1]] W fun en w'=>en= .returned (.bool true)/\Below W W w':=by
 have Bb:en=l.length:=by obtain⟨a,c,h⟩:=E.slice;cases h;rfl
 obtain⟨ca,cn,cc,ka,kn,kc,na,nn,nc,pl⟩:=i;dsimp only;have HG:=zhd G;have RU:=zhd (fun W' (K:Below W W W')=>yfo W' (G.below K));have HH:=zh5 H E hb64 he Bb;clear G H E hb64 he Bb;obtain⟨w0,Ab⟩:∃w0,w0=(W.alloc (.cells #[.slice ca cn cc,.slice ka kn kc,.slice na nn nc,pl] 28)).alloc (.cells #[x0,x1] 78):=⟨_,rfl⟩;have B0:Below W W w0:=by rw[Ab];exact(zal).alloc (by simp) _
 have X0:w0.heap[W.heap.size]? =some (.cells #[.slice ca cn cc,.slice ka kn kc,.slice na nn nc,pl] 28 (0,0)):=by rw[Ab];exact yaD
 have Y0:w0.heap[W.heap.size+1]? =some (.cells #[x0,x1] 78 (0,0)):=by rw[Ab];exact yat
 have Al:=zhd Y0;clear Y0;have H0:=zh2 B0 X0;clear B0 X0;go_in;go_wp2_with fail;rw[<-Ab];clear Ab;refine(RU.o w0 H0.o.1).mono ?_;rintro e w1 ⟨rfl,Af⟩;have B1:=H0.o.1.trans (Af.mono H0.o.1.size);have X1:=(Af.block _ (zlt H0.o.2)).trans H0.o.2;obtain⟨w2,Aj⟩:∃w2,w2=w1.alloc (.cells #[.slice ca cn cc,.slice ka kn kc,.slice na nn nc,pl] 28):=⟨_,rfl⟩;have B2:=zba Aj;have Ap:=B1.trans (B2.mono B1.size);have SM:=zhd (ydY _ w2 ⟨ca,cn,cc,ka,kn,kc,na,nn,nc,pl⟩ p (HH.o.1.below Ap) w1.heap.size (by rw[Aj];exact znb _ _) _ ea en ec l (HH.o.2.1.below Ap));have H2:=zh2 Ap ((B2.block _ (zlt X1)).trans X1);obtain⟨Q,P,O,M,D⟩:=yb6 X1;have Bk:=zhd ((B2.block _ (zlt ((Af.block _ (zlt Al.o)).trans Al.o))).trans ((Af.block _ (zlt Al.o)).trans Al.o));clear Af B1 X1 B2 Ap;go_wp2_with fail;rw[<-Aj];clear Aj;refine SM.o.mono ?_;rintro e w3 ⟨r,rfl,H3⟩;have B3:=H2.o.1.trans (H3.o.2.mono H2.o.1.size);have X3:=(H3.o.2.block _ (zlt H2.o.2)).trans H2.o.2;have y:=zh2 B3 X3;have Bj:=zhd ((H3.o.2.block _ (zlt Bk.o)).trans Bk.o);clear B3 X3 SM;clear Q P O M D
 obtain⟨Q,P,O,M,D⟩:=yb6 y.o.2;cases r with
 |false=>
  go_wp2;go_ret;exact⟨rfl,y.o.1⟩
 |true=>
  have SF:=H3.o.1 rfl;have A0:∀x∈p.consts,x.wf:=fun x hx=>ylm (Val.allL_iff.1 HH.o.2.2.1 x hx) (SF.consts x hx);have Ad:∀e∈l,e.v.wf:=fun e h=>ylm (HH.o.2.2.2.1 e h) (SF.evs e h);have Aq:=SF.len;have PN:=zhd (yea w3 ea en ec l (HH.o.2.1.below y.o.1) Ad (by omega));obtain⟨fa,at_,er,Bc⟩:∃fa a e,yaN p=(fa,a,e):=⟨_,_,_,rfl⟩;have HF:=zh4 A0 Ad Bc Aq;clear SF A0 Ad Bc Aq H3;go_wp2_with fail;refine PN.o.mono ?_;rintro e w4 ⟨r,rfl,H4⟩;have B4:=y.o.1.trans (H4.o.2.mono y.o.1.size);have X4:=(H4.o.2.block _ D).trans y.o.2;have A:=zh2 B4 X4;have Ak:=zhd ((H4.o.2.block _ (zlt Bj.o)).trans Bj.o);have z0:=zca Ak.o 0 rfl;have zl:=zlt Ak.o;clear B4 X4 PN;clear Q P O M D;obtain⟨Q,P,O,M,D⟩:=yb6 A.o.2;cases r with
  |false=>
   go_wp2;go_ret;exact⟨rfl,A.o.1⟩
  |true=>
   have RN:=zhd (yd2 _ w4 (HG.o.below A.o.1) ⟨ca,cn,cc,ka,kn,kc,na,nn,nc,pl⟩ p (HH.o.1.below A.o.1) HF.o.1 _ HF.o.2.2.1 ea en ec l ((HH.o.2.1.below A.o.1).mono (fun q h _=>znj h A.o.1.size)) HF.o.2.1 (by have:=HF.o.2.2.2;omega));have HP:=zhd (H4.o.1 rfl);clear H4;by_cases hx:x0<0
   .have n2:decide (x0<0)=true:=zno hx
    clear RN;go_wp2;go_ret;exact⟨rfl,A.o.1⟩
   .have n2:decide (x0<0)=false:=znd hx
    have Cp:=zhd (show 0<=x0 by omega);go_wp2_with fail;refine RN.o.mono ?_;rintro e w5 (⟨R,rfl,T⟩|⟨_,R,rfl,T⟩|⟨hz,r5,rfl,T⟩)
    .have R:er≠0:=R
     have n1:(er==0)=false:=by rw[zna];exact R
     have n2:(er !=0)=true:=by unfold bne;rw[n1];rfl
     have C:=zhd (A.o.1.trans (T.o.mono A.o.1.size));clear T R RN;go_wp2;go_ret;exact⟨rfl,C.o⟩
    .obtain⟨rc,A5⟩:∃rc,(rmL (yac p) (rm0 (yac p)) l).1=rc:=⟨_,rfl⟩
     rw[A5]at R|-;have n1:(rc==0)=false:=by rw[zna];exact R
     have n2:(rc !=0)=true:=by unfold bne;rw[n1];rfl
     have C:=zhd (A.o.1.trans (T.o.mono A.o.1.size));clear T R A5 RN;go_wp2;go_ret;exact⟨rfl,C.o⟩
    .have hz:er=0:=hz
     subst hz;have MW:=Mw.of HF.o.1 HF.o.2.2.1 HP.o.1 HF.o.2.1 HP.o.2 (by have:=HF.o.2.2.2;omega) T.o.1 T.o.2.2.2.2;obtain⟨L,hL⟩:∃L,yaP 0 (rmL (yac p) (rm0 (yac p)) l).2.o=L:=⟨_,rfl⟩;have X5:=T.o.2.1;rw[hL]at MW X5;obtain⟨n,hn⟩:∃n,L.length=n:=⟨_,rfl⟩;obtain⟨a5,c5,Ck⟩:∃a c,r5= .slice a n c:=by
      obtain⟨a,c,h⟩:=X5.slice;rw[hn]at h;exact⟨a,c,h⟩
     subst Ck;have B5:=A.o.1.trans (T.o.2.2.2.1.mono A.o.1.size);have x5:=(T.o.2.2.2.1.block _ D).trans A.o.2;have b:=zh2 MW hn;have C:=zh3 B5 x5 X5;have G5:=HG.o.below B5;have I5:=(HH.o.1.below B5).mono (G:=fun g=>g<w5) (fun g _ h=>h);have up:∀{X:World} (B:Below w5 w5 X) {v:Value} {l:List Ev},XRow (fun g=>w4<=g/\¬(Value.slice a5 n c5).ownBlock=some g) w5 40 v l->XRd (fun g=>g<X) X v l:=fun B _ _ h=>((h.rd (G:=fun g=>g<w5) (fun g _ h=>h) (fun g hg=>h.lt hg)).below B).mono (fun q h _=>znj h B.size);have Cd:∀{X:World} (B:Below w5 w5 X),IAt (fun g=>g<X) X ⟨ca,cn,cc,ka,kn,kc,na,nn,nc,pl⟩ p:=fun B=>(I5.below B).mono (fun q h _=>znj h B.size);have MT:=yjl HF.o.1 HF.o.2.2.1 HP.o.1 HF.o.2.1 (by have:=HF.o.2.2.2;omega) T.o.1;rw[hL]at MT;have HT:=zhd MT;have y5:=(T.o.2.2.2.1.block (W.heap.size+1) (zlt Ak.o)).trans Ak.o;have Bi:=zhd y5;have Bu:=zhd T.o.2.2.2.1;have Bp:=zhd (show∀g,(Value.slice a5 n c5).ownBlock=some g->w4.heap.size<=g from T.o.2.2.1);have HN:=zhd (show n<=900000 by have:=MW.len;omega);have E5:=zhd (up (znv _ _) X5)
     have C4:=zh2 G5 I5;clear T X5 MW MT hL x5 y5 B5 G5 I5 up Cd RN z0 zl n2 hx;clear Q P O M D;obtain⟨Q,P,O,M,D⟩:=yb6 C.o.2.1;go_wp2_with fail;go_loopg [42,9] n (fun gk v42 v9 wr=>yqL w5 L n gk v42 v9 wr)
     case atStart=>exact⟨0,rfl,znq _,rfl,RowAt.nil _ _,(fun g h=>by cases h),znv _ _⟩
     case round=>
      obtain⟨j,rfl,hj,Ba,hR,hO,BR⟩:=hrel;obtain⟨Cb,Ca,A4⟩:=hR.slice;subst A4;obtain⟨na,f⟩:∃n,(atN L j).length=n:=⟨_,rfl⟩;have Ax:na<=j:=by rw[<-f];exact ynU _ _
      rw[f]at hR hO|-;by_cases hjn:j<n
      .obtain⟨e,he⟩:=yae (l:=L) (k:=j) (by rw[b.o.2];exact hjn)
       obtain⟨g,At,vk,vn,vs,la,ln,lc,rfl,_,hg,dv,y0,y1,y2,y3,y4,y5,y6,y7,y8,y9,y10⟩:=yc8 (E5.o.below BR) he;have Cv:(j:Int)<n:=by omega
       have Am:=zhd (show wrap64 ((j:Int)+1)=(j:Int)+1 by have:=HN.o;unfold wrap64;omega);have Bq:=zhd (show n - (j+1)<gk by omega);have Bo:=zhd (ymn L j he);have t:=zh5 hR hO BR f Ax;clear Ba hR hO BR hj he dv f Ax;obtain⟨e0,e1,e2,e3,e4,e5,e6,ex⟩:=e;dsimp only at y0 y1 y2 y3 y4 y5 y6;go_upto_region 12 with(fail);refine yab ?_;intro w8 Av;have B8:=zba Av;have Bd:=zha Av;clear y0 y1 y2 y3 y4 y5 y6 y7 y8 y9 y10 hg Av;obtain⟨B6,Bz,By,x3,x4,x5,x6,x7,x8,x9,x10,xl,xf⟩:=yaW Bd;obtain⟨r,hr⟩:∃r,ybd e2=r:=⟨_,rfl⟩;have CM:=zhd (ygF e0 e1 e2 e3 e4 e5 e6 vk vn vs la ln lc w8 r hr);have Br:=zhd hr;have Bt:=zhd B8;clear hr B8 Bd;go_wp2_with fail;refine CM.o.mono ?_;rintro e w9 ⟨rfl,Bh⟩;have Ag:=zhd (Bt.o.trans (Bh.mono Bt.o.size));clear Bh CM B6 Bz By x3 x4 x5 x6 x7 x8 x9 x10 xl xf;cases r with
       |false=>
        have Ci:=Am.o;go_wp2_with fail;go_roundg (n - (j+1))
        case measure=>exact Bq.o
        case rel=>exact⟨j+1,by first|(simp;done)|(simp;exact Am.o),hjn,rfl,by rw[Bo.o,Br.o,znl,List.append_nil];exact t.o.1.below Ag.o,t.o.2.1,t.o.2.2.1.trans (Ag.o.mono t.o.2.2.1.size)⟩
       |true=>
        have RA:=zhd ((t.o.1.below Ag.o).below ((znv w9.heap.size w9).alloc (znc _) (.cells #[(j:Int)] 3)));have u:=zhd (show((atN L j).length+1)*8<=140737488355328/\(atN L j).length+1<=maxLen from by have h1:=t.o.2.2.2.1;have h2:=t.o.2.2.2.2;have h3:=HN.o;rw[h1];unfold maxLen;omega);have Cq:=t.o.2.2.2.1;have Ci:=Am.o;go_wp2_with (at_builtin;refine ybk (α:=Nat) ykT rfl (.tmp 49) (.tmp 51) rfl RA.o (j:Nat) rfl rfl (znb _ _) u.o.1 u.o.2 ?_;intro a2 c2 C1 U Ac V;rw[Cq]at U V|-;have Az:=zh3 U Ac V;clear U Ac V);go_roundg (n - (j+1))
        case measure=>exact Bq.o
        case rel=>
         have Cj:=znf t.o.2.2.1.size Ag.o.size;have K:=(zkb (S:=fun g=>(Value.slice Cb na Ca).ownBlock=some g) ((znv w9.heap.size w9).alloc (znc _) (.cells #[(j:Int)] 3))).trans Az.o.2.1 (fun _ _ e=>e);refine⟨j+1,by first|(simp;done)|(simp;exact Am.o),hjn,rfl,?_,fun g hg=> ?_,(t.o.2.2.1.trans (Ag.o.mono t.o.2.2.1.size)).trans (K.below Cj (fun q hq e=>by have:=t.o.2.1 q e;omega))⟩
         .rw[Bo.o,Br.o,znm]
          exact Az.o.1
         .rcases Az.o.2.2 g hg with h|h
          .exact t.o.2.1 g h
          .have h:w9.heap.size+1<=g:=by simpa using h
           omega
      .obtain rfl:j=n:=by omega
       have C3:¬(j:Int)<j:=by omega
       have Bx:Below W W wr:=C.o.1.trans (BR.mono C.o.1.size);obtain⟨z,hz⟩:∃z,((x1==0)||decide (na=0))=z:=⟨_,rfl⟩;obtain⟨wo,Ch⟩:∃wo:World,wo=wr:=⟨_,rfl⟩;subst Ch;have Y7:=(BR.block (W.heap.size+1) (zlt Bi.o)).trans Bi.o;have z0:=zca Y7 0 rfl;have z1:=zca Y7 1 rfl;have zl:=zlt Y7;clear Q P O M D;obtain⟨Q,P,O,M,D⟩:=yb6 ((BR.block _ (zlt C.o.2.1)).trans C.o.2.1);have HA:=zh6 hR hO BR f Bx ((BR.block _ (zlt C.o.2.1)).trans C.o.2.1);have HZ:=zhd hz;clear Ba hR hO BR hj Y7 Ax hz Bx f;go_upto_region 15 with(fail);go_cut [61] (fun v61 wx=>v61= .bool z/\wx=wo)
       case first=>
        by_cases h1:x1=0
        .have n1:(x1==0)=true:=by rw[beq_iff_eq];exact h1
         have HE:=zhd n1;clear h1;go_wp2_with fail;go_meet
         case rel=>exact⟨by rw[<-HZ.o,HE.o];rfl,rfl⟩
        .have n1:(x1==0)=false:=by rw[zna];exact h1
         have HE:=zhd n1;have n2:((na:Int)==0)=decide (na=0):=by
          cases h:decide (na=0)with
          |true=>rw[decide_eq_true_eq]at h;rw[beq_iff_eq];omega
          |false=>rw[znz]at h;rw[zna];omega
         have Cr:=zhd n2;clear h1;go_wp2_with fail;go_meet
         case rel=>exact⟨by rw[<-HZ.o,HE.o];first|rfl|(simp;done)|(simp[Cr.o]),rfl⟩
       case rest=>
        obtain⟨rfl,A2⟩:=hcut;rw[A2];clear A2;cases z with
        |true=>
         obtain⟨ks,Bg,Ay⟩:=(C.o.2.2.below HA.o.2.2.1).cells;have s:ks.length=j:=by rw[Ay.1];exact b.o.2
         have RA:=zhd (Bg.below ((znv wo.heap.size wo).alloc (znc _) (.cells #[.int .i64 0,.int .i64 0,.int .i64 11,.int .i64 1099511627776,.int .i64 3,.string ⟨#[]⟩,.string ⟨#[]⟩,.int .i64 0,.int .i64 0,.string ⟨#[]⟩,.slice none 0 0] 40)));have u:=zhd (show(ks.length+1)*128<=140737488355328/\ks.length+1<=maxLen from by have h3:=HN.o;rw[s];unfold maxLen;omega);have H8:=zh2 Ay s;have xl2:=Nat.lt_succ_of_lt D;clear Bg Ay s z0 z1 zl;go_upto_region 17 with(at_builtin;refine ybk (α:=EC) yfP rfl (.tmp 62) (.tmp 64) rfl RA.o (⟨0,0,11,1099511627776,3,⟨#[]⟩,⟨#[]⟩,⟨0,0,⟨#[]⟩,none,0,0⟩⟩:EC) rfl rfl (znb _ _) u.o.1 u.o.2 ?_;intro a1 c1 B7 U Ac V;rw[H8.o.2]at U V|-;have An:=zh3 U Ac V;clear U Ac V);have AP:=EsRel.app (W:=w4) C.o.2.2 Bp.o Bu.o HA.o.2.2.1 H8.o.1 (x:=⟨0,0,11,1099511627776,3,⟨#[]⟩,⟨#[]⟩,yag⟩) ⟨rfl,rfl,rfl,rfl,rfl,rfl,rfl,yaI _ _⟩ An.o.1 An.o.2.1 An.o.2.2;have d:=A.o.1.trans (AP.2.2.mono A.o.1.size);have Bl:=zhd ((AP.2.2.block _ (zlt A.o.2)).trans A.o.2)
         have FN:=zhd (ygw (HG.o.below d) (HH.o.1.below d) b.o.1.wf b.o.1.ck (AP.1.rd (G:=fun q=>q<B7) (fun q _ h=>h) (fun q hq=>AP.1.lt hq)) ⟨by rw[znk,b.o.2];have:=HN.o;show j+1<=_;omega,fun e he=>(List.mem_append.1 he).elim (b.o.1.row.2 e) (fun h=>by rw[List.mem_singleton.1 h];exact⟨ydt,by rw[ycX];decide⟩)⟩ (b.o.1.more rfl));have Bs:=zhd d;clear AP d xl2 RA u H8 An;clear Q P O M D;obtain⟨Q,P,O,M,D⟩:=yb6 Bl.o;go_wp2_with fail;refine FN.o.mono ?_;rintro e C0 ⟨rfl,As⟩;have Bv:=zhd (Bs.o.trans (As.mono Bs.o.size));clear As FN Q P O M D;go_wp2;go_ret;exact⟨rfl,Bv.o⟩
        |false=>
         have Au:=HZ.o;have Cf:(x1==0)=false:=(Bool.or_eq_false_iff.1 Au).1;have C2:¬na=0:=zny (Bool.or_eq_false_iff.1 Au).2;have Cg:0<=x0:=Cp.o;have n1:((na:Int)==0)=false:=by rw[zna];omega
         obtain⟨m,hm⟩:∃m:Nat,x0%(na:Int)=m:=⟨(x0%(na:Int)).toNat,(Int.toNat_of_nonneg (Int.emod_nonneg _ (by omega))).symm⟩;have A7:m<na:=by have:=Int.emod_lt_of_pos x0 (show(0:Int)<na by omega);omega
         obtain⟨k,hk⟩:=yae (l:=atN L j) (k:=m) (by rw[HA.o.2.2.2.1];exact A7);obtain⟨Cl,e,he,A8⟩:=ynV hk;obtain⟨ag,ao,rfl,_,Cn,Be⟩:=(RdF.of_row (F:=fun _=>True) HA.o.1 (fun _ _=>trivial)).at_ hk;have za:wo.cell? ⟨ag,ao+m,none⟩=some (.int .i64 (k:Int)):=by have h:=Be 0 _ rfl;simpa[Cells.sz]using h
         have A6:(m:Int)<na:=by omega
         clear Be hk Au Cf;obtain⟨g,At,vk,vn,vs,la,ln,lc,rfl,_,hg,dv,y0,y1,y2,y3,y4,y5,y6,y7,y8,y9,y10⟩:=yc8 (E5.o.below HA.o.2.2.1) he;obtain⟨Cc,Bf,Co⟩:=C.o.2.2.cells;have ff:∀o,wo.frozen? ⟨g,o,none⟩=false:=(Bf.below HA.o.2.2.1).frozen;have Cu:(k:Int)<j:=by omega
         have A9:=Bp.o g rfl;have Bn:=HT.o e (zmg he);have A1:=(b.o.1.row.2 e (zmg he)).1;have J:=zh6 (C.o.2.2.below HA.o.2.2.1) A9 he A8 A1 Bn;have A3:wrap64 (e.time+1)=e.time+1:=by unfold wrap64;omega
         clear Bf Co Cc dv he A8 Cl A7 A1 Bn A9;obtain⟨e0,e1,e2,e3,e4,e5,e6,ex⟩:=e;dsimp only at y0 y1 y2 y3 y4 y5 y6 A3;go_upto_region 20 with(fail);refine yab ?_;intro w20 Y;have XS:=XRow.setF J.o.1 J.o.2.2.1 1 (e1+1) _ (.inl ⟨rfl,rfl⟩);rw[show wo.setCell ⟨g,At+k*11+1,none⟩ (.int .i64 (e1+1))=w20 from Y.symm]at XS;have I:Below W W w20:=by rw[Y];exact HA.o.2.2.2.2.1.setCell (znf A.o.1.size J.o.2.1) _
         have K20:Keeps (fun q=>q=g) wo w20:=by rw[Y];exact Keeps.setCell (S:=fun q=>q=g) (p:=⟨g,_,none⟩) (Keeps.refl _ _) (.inl rfl) _
         have x20:=(K20.block W D (fun e=>by have:=J.o.2.1;have:=zlt A.o.2;omega)).trans HA.o.2.2.2.2.2;have Ai:XRd (fun q=>q<w20) w20 (.slice (some ⟨g,At,none⟩) j c5) _:=XS.rd (fun q _ h=>h) (fun q hq=>XS.lt hq);have s:k<L.length:=(zge J.o.2.2.1).1;obtain⟨g2,Ct,uk,un,us,ua,ul,uc,Ce,_,Cm,du,t0,t1,t2,t3,t4,t5,t6,t7,t8,t9,B9⟩:=yc8 Ai (List.getElem?_set_self s);cases Ce;dsimp only at t0 t1 t2 t3 t4 t5 t6 du;obtain⟨q,hq⟩:∃q,yaf ⟨e0,e1+1,e2,e3,e4,e5,e6,ex⟩=q:=⟨_,rfl⟩;have RC:=zhd (yqi e0 (e1+1) e2 e3 e4 e5 e6 ex uk un us ua ul uc _ du J.o.2.2.2.2.1 q hq);have RY:Rowy (L.set k ⟨e0,e1+1,e2,e3,e4,e5,e6,ex⟩):=⟨by rw[List.length_set];exact b.o.1.row.1,fun e he=>by
          rcases List.mem_or_eq_of_mem_set he with h|h
          .exact b.o.1.row.2 e h
          .rw[h];exact b.o.1.row.2 (⟨e0,e1,e2,e3,e4,e5,e6,ex⟩:Ev) (zmg J.o.2.2.1)⟩
         have OT:=b.o.1.other J.o.2.2.1 J.o.2.2.2.1 (x:=⟨e0,e1+1,e2,e3,e4,e5,e6,ex⟩) rfl (fun h=>by have h1:e1+1=e1:=congrArg Ev.time h;omega);have AG:=zhd (fun X (B:Below w20 w20 X)=>ycT X _ _ _ _ ((Ai.below B).mono (fun q h _=>znj h B.size)) _ _ _ _ ((Ai.below B).mono (fun q h _=>znj h B.size)) RY RY true true ⟨fun _=>rfl,fun _=>rfl⟩ ⟨fun _=>.inl ⟨[],by rw[List.append_nil]⟩,fun _=>rfl⟩);have FN:=zhd (fun X (B:Below w20 w20 X)=>ygw (HG.o.below (I.trans (B.mono I.size))) (HH.o.1.below (I.trans (B.mono I.size))) b.o.1.wf b.o.1.ck ((Ai.below B).mono (fun q h _=>znj h B.size)) RY OT);have Aa:=zh2 I x20;clear XS I K20 x20 Ai s du hq RY OT Y y0 y1 y2 y3 y4 y5 y6 y7 y8 y9 y10 ff hg za Cn z0 z1 zl hm A6 A3 Cg;clear Q P O M D;obtain⟨Q,P,O,M,D⟩:=yb6 Aa.o.2;go_wp2_with fail;refine RC.o.mono ?_;rintro e Cz ⟨rfl,Z⟩;have Ah:=zh2 Z ((Z.block _ D).trans Aa.o.2);have Bm:=zhd (Aa.o.1.trans (Z.mono Aa.o.1.size));clear Z RC t0 t1 t2 t3 t4 t5 t6 t7 t8 t9 B9 Cm;clear Q P O M D;obtain⟨Q,P,O,M,D⟩:=yb6 Ah.o.2;by_cases hq0:q=0
         .subst hq0
          go_wp2_with fail;refine(AG.o _ Ah.o.1).mono ?_;rintro e Cy ⟨rfl,Ae⟩;have Ao:=zh2 (Ah.o.1.trans (Ae.mono Ah.o.1.size)) ((Ae.block _ D).trans Ah.o.2);clear Ae AG;clear Q P O M D;obtain⟨Q,P,O,M,D⟩:=yb6 Ao.o.2;go_wp2_with fail;refine(FN.o _ Ao.o.1).mono ?_;rintro e Cx ⟨rfl,Ar⟩;have Cs:=zhd (Aa.o.1.trans ((Ao.o.1.trans (Ar.mono Ao.o.1.size)).mono Aa.o.1.size));clear Ar FN Q P O M D;go_wp2;go_ret;exact⟨rfl,Cs.o⟩
         .have n3:(q==0)=false:=by rw[zna];exact hq0
          have n4:(q !=0)=true:=by unfold bne;rw[n3];rfl
          clear hq0 AG FN;go_wp2;go_ret;exact⟨rfl,Bm.o⟩
end Go.Proofs.YtpagmlndgblhhaaGreatDoor
namespace Go.Proofs.YtpagmlndgblhhaaGreatDoor
open Go.ChangeShapes Go.WideShapes Go.Deep Go.RowKit Go.Own Go.Va
theorem ykj {H:Type}{tok:TypeId×Value->H}{w:World}{base:Nat}{spare:Nat->Bool}{held:Bool}{r:Reach}{b0:Nat}{v:Value}{d:DataW H}{p:List MemPlace}(hv:Value.okWide Tryz.prog w r b0 78 v)(h:DataW.Trod tok Tryz.prog w base spare held 78 v d p):∃x y:Int,v= .agg #[x,y]/\True:=by
 simp only[Value.okWide,Tryz.underlying78]at hv;obtain⟨F,rfl,A,_⟩:=hv;obtain⟨fuel,P⟩:=h;have Q:Tryz.prog.cellsOf 78=2:=by kernel_rfl
 rw[Q]at A;obtain⟨D,C,G⟩:∃D C,F.toList=[D,C]:=by
  match hcs:F.toList,(show F.toList.length=2 by simpa using A)with
  |[D,C],_=>exact⟨D,C,rfl⟩
 obtain⟨M,m,_,_,_,E,B⟩:=DataW.trod_array Tryz.underlying78 P
 match M,E with
 |[y0,y1],_=>
  have J:=B 0 (by omega);have I:=B 1 (by omega);simp[Value.cells,G,ykB]at J I;obtain⟨O,L,_,_⟩:=DataW.trod_int Tryz.underlying3 J;obtain⟨N,K,_,_⟩:=DataW.trod_int Tryz.underlying3 I;simp at L K;subst L K;refine⟨O,N,?_,trivial⟩
  congr 1
  exact Array.ext' (by simpa using G)
end Go.Proofs.YtpagmlndgblhhaaGreatDoor
