/- Parts of the proof: what the functions and the plain laws give that later parts lean on. Conditions: none beyond those that each theorem names. -/
import Derived.Lib.MinMax
import Derived.Test.YtpagmlndgblhhaaGreatDoorW22
set_option maxRecDepth 100000
set_option maxHeartbeats 8000000
namespace Go.Va
open Go.Own Go.RowKit
open Cells (sz enc)
section
variable{α β:Type} [Cells α] [Elt α β] {F G S:Nat->Prop} {w w':World} {e:TypeId} {v:Value} {l:List β}
theorem XRd.nil (F:Nat->Prop)(w:World):XRd (β:=β) F w (.slice none 0 0) []:=⟨[],RdF.nil _ _,rfl,fun i c x h=>by simp at h⟩
end
end Go.Va
namespace Go.Va
open Go.Own Go.RowKit
open Go.Proofs.YtpagmlndgblhhaaGreatDoor
theorem Mw.all {p:Img}{fa:Fa}{at_:Int}{l L:List Ev}(h:Mw p fa at_ l L):yau L≠[]/\(yau L).length<=30/\BegP (yaT L) (yaw (yac p) ((yau L).map yam)):=by
 have:=h.fit (L.length+1) (by omega);rw[zmj (by omega)]at this;exact this
end Go.Va
namespace Go.Proofs.YtpagmlndgblhhaaGreatDoor
open Go.RowKit Go.Own Go.Own.MapTy Go.Va Go.Sort
open Go.Own.Cells (sz enc)
set_option linter.unusedVariables false
set_option linter.unusedSimpArgs false
theorem yhv {N:Nat}(i:IC)(p:Img)(W:World)(G:Gl Tryz.prog N W)(H:IAt (fun j=>j<W) W i p)(hb64:Val.all.allL B64 p.consts)(ea:Option Addr)(en ec:Nat)(l:List Ev)(E:XRd (fun j=>j<W) W (.slice ea en ec) l)(he:∀e∈l,e.v.all B64)(cut:Int):
  Calls Tryz.prog 7 #[.agg #[.slice i.ca i.cn i.cc,.slice i.ka i.kn i.kc,.slice i.na i.nn i.nc,i.pl],.slice ea en ec,cut] W fun en w'=>en= .returned (.bool true)/\Below W W w':=by
 have Aj:en=l.length:=by obtain⟨a,c,h⟩:=E.slice;cases h;rfl
 obtain⟨ca,cn,cc,ka,kn,kc,na,nn,nc,pl⟩:=i;dsimp only;have HG:=zhd G;have RU:=zhd (fun W' (K:Below W W W')=>yfo W' (G.below K));have HH:=zh5 H E hb64 he Aj;clear G H E hb64 he Aj;obtain⟨w0,f⟩:∃w0,w0=W.alloc (.cells #[.slice ca cn cc,.slice ka kn kc,.slice na nn nc,pl] 28):=⟨_,rfl⟩;have B0:=zba f;have X0:=zha f;have H0:=zh2 B0 X0;clear B0 X0;go_in;go_wp2_with fail;rw[<-f];clear f;refine(RU.o w0 H0.o.1).mono ?_;rintro e w1 ⟨rfl,Af⟩;have B1:=H0.o.1.trans (Af.mono H0.o.1.size);have X1:=(Af.block _ (zlt H0.o.2)).trans H0.o.2;obtain⟨w2,d⟩:∃w2,w2=w1.alloc (.cells #[.slice ca cn cc,.slice ka kn kc,.slice na nn nc,pl] 28):=⟨_,rfl⟩;have B2:=zba d;have Aa:=B1.trans (B2.mono B1.size);have SM:=zhd (ydY _ w2 ⟨ca,cn,cc,ka,kn,kc,na,nn,nc,pl⟩ p (HH.o.1.below Aa) w1.heap.size (by rw[d];exact znb _ _) _ ea en ec l (HH.o.2.1.below Aa));have H2:=zh2 Aa ((B2.block _ (zlt X1)).trans X1);obtain⟨R,Q,P,O,I⟩:=yb6 X1;clear Af B1 X1 B2 Aa;go_wp2_with fail;rw[<-d];clear d;refine SM.o.mono ?_;rintro e w3 ⟨r,rfl,H3⟩;have B3:=H2.o.1.trans (H3.o.2.mono H2.o.1.size)
 have X3:=(H3.o.2.block _ (zlt H2.o.2)).trans H2.o.2;have S:=zh2 B3 X3;clear B3 X3 SM;clear R Q P O I;obtain⟨R,Q,P,O,I⟩:=yb6 S.o.2;cases r with
 |false=>
  go_wp2;go_ret;exact⟨rfl,S.o.1⟩
 |true=>
  have SF:=H3.o.1 rfl;have Ag:∀x∈p.consts,x.wf:=fun x hx=>ylm (Val.allL_iff.1 HH.o.2.2.1 x hx) (SF.consts x hx);have V:∀e∈l,e.v.wf:=fun e h=>ylm (HH.o.2.2.2.1 e h) (SF.evs e h);have Ab:=SF.len;have PN:=zhd (yea w3 ea en ec l (HH.o.2.1.below S.o.1) V (by omega));obtain⟨fa,at_,er,Ak⟩:∃fa a e,yaN p=(fa,a,e):=⟨_,_,_,rfl⟩;have HF:=zh4 Ag V Ak Ab;clear SF Ag V Ak Ab H3;go_wp2_with fail;refine PN.o.mono ?_;rintro e w4 ⟨r,rfl,H4⟩;have B4:=S.o.1.trans (H4.o.2.mono S.o.1.size);have X4:=(H4.o.2.block _ I).trans S.o.2;have C:=zh2 B4 X4;clear B4 X4 PN;clear R Q P O I;obtain⟨R,Q,P,O,I⟩:=yb6 C.o.2;cases r with
  |false=>
   go_wp2;go_ret;exact⟨rfl,C.o.1⟩
  |true=>
   have RN:=zhd (yd2 _ w4 (HG.o.below C.o.1) ⟨ca,cn,cc,ka,kn,kc,na,nn,nc,pl⟩ p (HH.o.1.below C.o.1) HF.o.1 _ HF.o.2.2.1 ea en ec l ((HH.o.2.1.below C.o.1).mono (fun q h _=>znj h C.o.1.size)) HF.o.2.1 (by have:=HF.o.2.2.2;omega));have HP:=zhd (H4.o.1 rfl);clear H4;go_wp2_with fail;refine RN.o.mono ?_;rintro e A (⟨J,rfl,T⟩|⟨_,J,rfl,T⟩|⟨hz,r5,rfl,T⟩)
   .have J:er≠0:=J
    have n1:(er==0)=false:=by rw[zna];exact J
    have n2:(er !=0)=true:=by unfold bne;rw[n1];rfl
    have F:=zhd (C.o.1.trans (T.o.mono C.o.1.size));clear T J RN;go_wp2;go_ret;exact⟨rfl,F.o⟩
   .obtain⟨rc,Ah⟩:∃rc,(rmL (yac p) (rm0 (yac p)) l).1=rc:=⟨_,rfl⟩
    rw[Ah]at J|-;have n1:(rc==0)=false:=by rw[zna];exact J
    have n2:(rc !=0)=true:=by unfold bne;rw[n1];rfl
    have F:=zhd (C.o.1.trans (T.o.mono C.o.1.size));clear T J Ah RN;go_wp2;go_ret;exact⟨rfl,F.o⟩
   .have hz:er=0:=hz
    subst hz;have D:=Mw.of HF.o.1 HF.o.2.2.1 HP.o.1 HF.o.2.1 HP.o.2 (by have:=HF.o.2.2.2;omega) T.o.1 T.o.2.2.2.2;obtain⟨L,hL⟩:∃L,yaP 0 (rmL (yac p) (rm0 (yac p)) l).2.o=L:=⟨_,rfl⟩;have u:=T.o.2.1;rw[hL]at D u;obtain⟨n,hn⟩:∃n,L.length=n:=⟨_,rfl⟩;obtain⟨a5,c5,Aq⟩:∃a c,r5= .slice a n c:=by
     obtain⟨a,c,h⟩:=u.slice;rw[hn]at h;exact⟨a,c,h⟩
    subst Aq;have B5:=C.o.1.trans (T.o.2.2.2.1.mono C.o.1.size);have x5:=(T.o.2.2.2.1.block _ I).trans C.o.2;have HM:=zh2 D hn;have F:=zh3 B5 x5 u;have G5:=HG.o.below B5;have I5:=(HH.o.1.below B5).mono (G:=fun g=>g<A) (fun g _ h=>h);have up:∀{X:World} (B:Below A A X) {v:Value} {l:List Ev},XRow (fun g=>w4<=g/\¬(Value.slice a5 n c5).ownBlock=some g) A 40 v l->XRd (fun g=>g<X) X v l:=fun B _ _ h=>((h.rd (G:=fun g=>g<A) (fun g _ h=>h) (fun g hg=>h.lt hg)).below B).mono (fun q h _=>znj h B.size);have U:∀{X:World} (B:Below A A X),IAt (fun g=>g<X) X ⟨ca,cn,cc,ka,kn,kc,na,nn,nc,pl⟩ p:=fun B=>(I5.below B).mono (fun q h _=>znj h B.size);have Ar:1<=n:=by
     cases n with
     |zero=>rw[List.length_eq_zero_iff.1 hn]at D;exact absurd rfl D.o.1
     |succ n=>omega
    obtain⟨k,hk,Ai,As⟩:∃k:Nat,max 1 (min cut (n:Int))=(k:Int)/\1<=k/\k<=n:=⟨(max 1 (min cut (n:Int))).toNat,by omega,by omega,by omega⟩;obtain⟨Az,b⟩:=yg5 u (k:=k) (by omega);have FT:=zhd (fun X (B:Below A A X)=>yeo (G5.below B) (U B) D.wf D.ck (up B u) D.row D.all);have WT:=zhd (fun X (B:Below A A X)=>ydd (G5.below B) (U B) D.wf D.ck (up B u) D.row D.all true (by rw[D.set,zmd];exact(zno rfl).symm));have FK:=zhd (fun X (B:Below A A X)=>yeo (G5.below B) (U B) D.wf D.ck (up B b) (D.row.take k) (D.fit k Ai));obtain⟨sm,m⟩:∃sm,decide ((yau (L.take k)).length=(yau L).length)=sm:=⟨_,rfl⟩;have AG:=zhd (fun X (B:Below A A X)=>ycT X _ _ _ L (up B u) _ _ _ (L.take k) (up B b) D.row (D.row.take k) sm true (by rw[<-m,decide_eq_true_eq];exact(ymw L k).symm) ⟨fun _=>.inr (yit L k),fun _=>rfl⟩);have F0:=zhd (fun X (B:Below A A X)=>ycD _ X (G5.below B) ⟨ca,cn,cc,ka,kn,kc,na,nn,nc,pl⟩ p (U B) D.wf fa at_ D.ck none 0 0 [] (XRd.nil _ _) ⟨znq _,fun e h=>by cases h⟩ (znq _) 6 (fun _=>rfl) (fun h=>absurd rfl h) (fun h=>absurd rfl h))
    have At:=zhd (fun X (B:Below A A X)=>ycz X _ _ _ (L.take k) (up B b) (fun e h=>((D.row.take k).2 e h).2) (by have:=(D.row.take k).1;omega));have OL:=zhd (fun X (B:Below A A X)=>ycz X _ _ _ L (up B u) (fun e h=>(D.row.2 e h).2) (by have:=D.row.1;omega));obtain⟨nb,t⟩:∃n,((yau (L.take k)).map yam).length=n:=⟨_,rfl⟩;obtain⟨nd,s⟩:∃n,((yau L).map yam).length=n:=⟨_,rfl⟩;have e0:((nb:Int)==(nd:Int))=sm:=by
     rw[zmd]at t s;rw[t,s]at m;rw[<-m];cases h:decide (nb=nd)with
     |true=>rw[decide_eq_true_eq]at h;rw[beq_iff_eq,h]
     |false=>rw[znz]at h;rw[zna];omega
    have k0:(0:Int)<=(k:Int):=by omega
    have z:=zhd (show W<A.heap.size from zlt x5);clear T u D hL b x5 B5 G5 I5 up U Ar hn m Ai As RN;clear R Q P O I;obtain⟨R,Q,P,O,I⟩:=yb6 F.o.2.1;go_wp2_with fail;refine(FT.o _ (znv _ _)).mono ?_;rintro e w6 ⟨rfl,Ae⟩;have Z:=zh2 Ae ((Ae.block _ I).trans F.o.2.1);clear Ae FT;clear R Q P O I;obtain⟨R,Q,P,O,I⟩:=yb6 Z.o.2;go_wp2_with fail;refine(WT.o _ Z.o.1).mono ?_;rintro e w7 ⟨rfl,Ad⟩;have Y:=zh2 (Z.o.1.trans (Ad.mono Z.o.1.size)) ((Ad.block _ I).trans Z.o.2);clear Ad WT;clear R Q P O I;obtain⟨R,Q,P,O,I⟩:=yb6 Y.o.2;go_wp2_with fail;refine(AG.o _ Y.o.1).mono ?_;rintro e w8 ⟨rfl,Ac⟩;have Al:=zh2 (Y.o.1.trans (Ac.mono Y.o.1.size)) ((Ac.block _ I).trans Y.o.2);clear Ac AG;clear R Q P O I;obtain⟨R,Q,P,O,I⟩:=yb6 Al.o.2;have BX:=zhd Al.o.1;have Av:=zhd t;have Au:=zhd s;have Ax:=zhd e0;clear t s e0 hk;go_upto_region 12 with(fail);have Ap:w8.drew.cell? ⟨W,0,none⟩=some (.slice ca cn cc):=R;have Ao:w8.drew.cell? ⟨W,1,none⟩=some (.slice ka kn kc):=Q
    have An:w8.drew.cell? ⟨W,2,none⟩=some (.slice na nn nc):=P;have Am:w8.drew.cell? ⟨W,3,none⟩=some (.int .i64 pl):=O
    go_region_held3 (fun W1=>W1.cell? ⟨W,0,none⟩=some (.slice ca cn cc)/\W1.cell? ⟨W,1,none⟩=some (.slice ka kn kc)/\W1.cell? ⟨W,2,none⟩=some (.slice na nn nc)/\W1.cell? ⟨W,3,none⟩=some (.int .i64 pl)) (first|with_reducible exact⟨r0,r1,r2,r3⟩|with_reducible exact⟨Ap,Ao,An,Am⟩|with_reducible exact⟨R,Q,P,O⟩|go_keep|go_simp) (first|(go_at_call 41;(with_reducible show Calls _ _ #[_,.slice none 0 0] _ _);refine(F0.o _ (by first|exact BX.o|exact BX.o.drew)).mono ?_;rintro e wf ⟨rfl,M⟩;replace BX:=zhd (show Below A A wf from by first|exact BX.o.trans (M.mono BX.o.size)|exact BX.o.drew.trans (M.mono BX.o.drew.size));clear M;obtain⟨r0,r1,r2,r3,rl⟩:=yb6 ((BX.o.block W z.o).trans F.o.2.1))|(go_at_call 41;(with_reducible show Calls _ _ #[_,.slice a5 k c5] _ _);refine(FK.o _ (by first|exact BX.o|exact BX.o.drew)).mono ?_;rintro e wf ⟨rfl,M⟩;replace BX:=zhd (show Below A A wf from by first|exact BX.o.trans (M.mono BX.o.size)|exact BX.o.drew.trans (M.mono BX.o.drew.size));clear M;obtain⟨r0,r1,r2,r3,rl⟩:=yb6 ((BX.o.block W z.o).trans F.o.2.1))|(go_at_call 27;(with_reducible show Calls _ _ #[.slice a5 n c5] _ _);refine(OL.o _ (by first|exact BX.o|exact BX.o.drew)).mono ?_;rintro e wf ⟨vd,rfl,y⟩;obtain⟨ad,cd,rfl,_⟩:=ydE y.o;rw[Au.o];have e0:=Ax.o;replace BX:=zhd (show Below A A wf from by first|exact BX.o.trans (y.o.2.2.mono BX.o.size)|exact BX.o.drew.trans (y.o.2.2.mono BX.o.drew.size));clear y;obtain⟨r0,r1,r2,r3,rl⟩:=yb6 ((BX.o.block W z.o).trans F.o.2.1))|(go_at_call 27;(with_reducible show Calls _ _ #[.slice a5 k c5] _ _);refine(At.o _ (by first|exact BX.o|exact BX.o.drew)).mono ?_;rintro e wf ⟨vb,rfl,y⟩;obtain⟨ab,cb,rfl,_⟩:=ydE y.o;rw[Av.o];replace BX:=zhd (show Below A A wf from by first|exact BX.o.trans (y.o.2.2.mono BX.o.size)|exact BX.o.drew.trans (y.o.2.2.mono BX.o.drew.size));clear y;obtain⟨r0,r1,r2,r3,rl⟩:=yb6 ((BX.o.block W z.o).trans F.o.2.1)))
    have Ay:=zhd (F.o.1.trans (BX.o.mono F.o.1.size));clear BX e0;go_wp2;go_ret;exact⟨by first|rfl|simp,Ay.o⟩
end Go.Proofs.YtpagmlndgblhhaaGreatDoor
