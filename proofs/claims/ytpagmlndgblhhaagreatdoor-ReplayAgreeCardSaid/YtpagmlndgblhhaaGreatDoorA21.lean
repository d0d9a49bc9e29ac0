/- Parts of the proof: what the functions and the plain laws give that later parts lean on. Conditions: none beyond those that each theorem names. -/
import Derived.HandedShaped
import Derived.LaidMore
import Derived.Lay
import Derived.MakeChecks
import Derived.Stop.LaidErr
import Derived.Shelf.Vars
import Derived.ChangeOld
import Derived.Test.YtpagmlndgblhhaaGreatDoorA20
set_option maxRecDepth 100000
set_option maxHeartbeats 8000000
namespace Go.Va
open Go.Own Go.RowKit
open Go.Proofs.YtpagmlndgblhhaaGreatDoor
theorem yhp (e:Ev):yaX (ybf e)=yaX e:=by unfold yaX ybf;dsimp only;rw[ybo]
theorem ycI (l:List Ev):(l.map ybf).map yaX=l.map yaX:=by
 rw[List.map_map];exact List.map_congr_left (fun e _=>yhp e)
theorem ygB (e:Ev):yad (ybf e)=yad e:=by
 unfold yad ybf;dsimp only;rw[yaJ,yaL]
theorem yiV {e f:Ev}(h:yde e f=true):yaX e=yaX f:=by
 unfold yde at h;simp only[Bool.and_eq_true,beq_iff_eq,decide_eq_true_eq]at h;obtain⟨_,G,F,E,D,C,B,A⟩:=h;unfold yaX;rw[G,F,E,D,C,B,(ycB _ _).1 A]
theorem yiU (e:Ev):yde e e=true:=by
 unfold yde;simp only[Bool.and_eq_true,beq_iff_eq,decide_eq_true_eq];exact⟨trivial,trivial,trivial,trivial,trivial,trivial,trivial,(ycB _ _).2 rfl⟩
theorem Wr.agree {p:Img}{fa:Fa}{b:BK}{m t last:Nat}(W:Wr p fa b m t last){x:List Ev}(hx:∀e∈x,yad e=0)(h:x.map yaX=(ya1 b.list).map yaX):∃k,ybk p x=(ycF b.list).map yaX++k:=by
 rw[yg1 hx (fun e he=>(W.bk.evs e (List.mem_filter.1 he).1).1) h];exact W.bk.hi.agree
end Go.Va
namespace Go.Proofs.YtpagmlndgblhhaaGreatDoor
open Go.RowKit Go.Own Go.Own.MapTy Go.Va Go.Sort
open Go.Own.Cells (sz enc)
set_option linter.unusedVariables false
set_option linter.unusedSimpArgs false
theorem XRow.setId {F:Nat->Prop}{w:World}{g off n cap:Nat}{l:List Ev}(X:XRow (fun q=>F q/\¬(Value.slice (some ⟨g,off,none⟩) n cap).ownBlock=some q) w 40 (.slice (some ⟨g,off,none⟩) n cap) l){i:Nat}{e:Ev}(he:l[i]? =some e)(u:Int):
  XRow (fun q=>F q/\¬(Value.slice (some ⟨g,off,none⟩) n cap).ownBlock=some q) (w.setCell ⟨g,off+i*11,none⟩ (.int .i64 u)) 40 (.slice (some ⟨g,off,none⟩) n cap) (l.set i {e with id:=u}):=by
 obtain⟨D,G,C⟩:=X.cells;obtain⟨k,hk⟩:=yac (l:=D) (k:=i) (by rw[C.1];exact(zge he).1);have A:EvF _ w k e:=C.2 i k e hk he;have B:=G.setOne (i:=i) (j:=0) (u:=.int .i64 u) (y:=({k with id:=u}:EC)) hk (by decide) rfl;have E:(Value.slice (some ⟨g,off,none⟩) n cap).ownBlock=some g:=rfl;have K:Keeps (fun q=>q=g) w (w.setCell ⟨g,off+i*11,none⟩ (.int .i64 u)):=Keeps.setCell (S:=fun q=>q=g) (p:=⟨g,_,none⟩) (Keeps.refl _ _) (.inl rfl) _;refine XRow.of B ((C.set i (x:={e with id:=u}) (c:={k with id:=u}) ?_).keep K (fun q hq e=>hq.2 (e▸E)));obtain⟨P,O,N,M,L,J,I,H⟩:=A;exact⟨rfl,O,N,M,L,J,I,H⟩
def ypW (w13:World)(av bv:Value)(n:Nat)(x y:List Ev)(gk:Nat)(v91:Value)(wr:World):Prop:=
 ∃(i:Nat) (y':List Ev),v91= .int .i64 i/\i<=n/\gk=n - i/\XRow (fun q=>w13<=q/\¬bv.ownBlock=some q) wr 40 bv y'/\y'.map yaX=y.map yaX/\(x.take i).map yaX=(y.take i).map yaX/\(∀e∈y',e.v.wf)/\Below w13 w13 wr
def yoY (w6:World)(xs ys:List Ev)(v v':Value)(wx:World):Prop:=∃(w7:World) (a:Option Addr) (n c:Nat) (a':Option Addr) (n' c':Nat),v= .slice a n c/\v'= .slice a' n' c'/\Below w6 w6 w7/\Below w7 w7 wx/\XRow (fun q=>w6<=q/\¬v.ownBlock=some q) w7 40 v xs/\XRow (fun q=>w7<=q/\¬v'.ownBlock=some q) wx 40 v' ys/\(∀g,v'.ownBlock=some g->w7.heap.size<=g)
def AgRow (w:World)(all:List Ev)(v:Value):Prop:=∃(a:Option Addr) (n c:Nat) (ms k:List Ev),v= .slice a n c/\XRd (fun q=>q<w) w v (ms.map ybf)/\all=ms.map yaX++k/\(∀e∈ms,e.v.wf)/\ms.length<=3000000
theorem AgRow.ext {w w':World}{all:List Ev}{v:Value}(A:AgRow w all v)(B:Below w w w'):AgRow w' all v:=by
 obtain⟨a,n,c,C,k,H,G,F,E,D⟩:=A;exact⟨a,n,c,C,k,H,(G.below B).mono (fun q _ h=>h),F,E,D⟩
def ypX (w:World)(gk:Nat)(v133:Value)(wr:World):Prop:=∃k:Nat,v133= .int .i64 k/\k<=2/\gk=2 - k/\Below w w wr
def yqw (w:World)(n:Nat)(gk:Nat)(v143:Value)(wr:World):Prop:=∃j:Nat,v143= .int .i64 j/\j<=n/\gk=n - j/\Below w w wr
def ypY (w16:World)(b:Nat)(o:Obj)(w:World)(wx:World):Prop:=wx.heap[b]? =some o/\Below w w wx/\Keeps (fun q=>q=b) w16 wx
theorem yjM {N:Nat}(i:IC)(p:Img)(W:World)(G:Gl Tryz.prog N W)(H:IAt (fun j=>j<W) W i p)(hb64:Val.all.allL B64 p.consts)(ea:Option Addr)(en ec:Nat)(l:List Ev)(E:XRd (fun j=>j<W) W (.slice ea en ec) l)(he:∀e∈l,e.v.all B64)
  (a0:Option Addr)(n0 c0:Nat)(a1:Option Addr)(n1 c1:Nat)(l0 l1:List (Int×Int))(hn0:l0.length=n0)(P0:PlAt W a0 l0)(hn1:l1.length=n1)(P1:PlAt W a1 l1):
  Calls Tryz.prog 4 #[.agg #[.slice i.ca i.cn i.cc,.slice i.ka i.kn i.kc,.slice i.na i.nn i.nc,i.pl],.slice ea en ec,.agg #[.slice a0 n0 c0,.slice a1 n1 c1]] W fun en w'=>en= .returned (.bool true)/\Below W W w':=by
 have Cy:en=l.length:=by obtain⟨a,c,h⟩:=E.slice;cases h;rfl
 have HG:=zhd G;have RU:=zhd (fun W' (K:Below W W W')=>ygi W' (G.below K));have SM:=zhd (fun W' (K:Below W W W')=>yg0 _ W' i p (H.below K) _ ea en ec l (E.below K));have HH:=zh5 H E hb64 he Cy;have HP:=zh4 hn0 P0 hn1 P1;clear G H E hb64 he Cy hn0 P0 hn1 P1;obtain⟨w0,Al⟩:∃w0,w0=(W.alloc (.cells #[.slice i.ca i.cn i.cc,.slice i.ka i.kn i.kc,.slice i.na i.nn i.nc,i.pl] 28)).alloc (.cells #[.slice a0 n0 c0,.slice a1 n1 c1] 63):=⟨_,rfl⟩;have B0:Below W W w0:=by rw[Al];exact(zal).alloc (by simp) _
 have X0:BoxI w0 W.heap.size i:=by rw[Al];exact yaC
 have Y0:w0.heap[W.heap.size+1]? =some (.cells #[.slice a0 n0 c0,.slice a1 n1 c1] 63 (0,0)):=by rw[Al];exact yan
 have H0:=zh3 B0 X0 Y0;clear B0 X0 Y0;go_in;go_wp2_with fail;rw[<-Al];clear Al;refine(RU.o w0 H0.o.1).mono ?_;rintro e w1 ⟨rfl,Bb⟩;have H1:=zh3 (H0.o.1.trans (Bb.mono H0.o.1.size)) (H0.o.2.1.below Bb) ((Bb.block (W.heap.size+1) (zlt H0.o.2.2)).trans H0.o.2.2);obtain⟨q0,q1,q2,q3,ql⟩:=H1.o.2.1.all5;clear Bb;go_wp2_with fail;refine(SM.o w1 H1.o.1).mono ?_;rintro e w2 ⟨r,rfl,H2⟩;have Aa:=zh3 (H1.o.1.trans (H2.o.2.mono H1.o.1.size)) (H1.o.2.1.below H2.o.2) ((H2.o.2.block (W.heap.size+1) (zlt H1.o.2.2)).trans H1.o.2.2);clear q0 q1 q2 q3 ql RU SM;cases r with
 |false=>
  go_wp2;go_ret;exact⟨rfl,Aa.o.1⟩
 |true=>
  have SF:=H2.o.1 rfl;have Cj:∀x∈p.consts,x.wf:=fun x hx=>yn1 (Val.allL_iff.1 HH.o.2.2.1 x hx) (SF.consts x hx);have Ar:∀e∈l,e.v.wf:=fun e h=>yn1 (HH.o.2.2.2.1 e h) (SF.evs e h);obtain⟨fa,at_,er,Cz⟩:∃fa a e,ya0 p=(fa,a,e):=⟨_,_,_,rfl⟩;have Bn:l.length<=20:=SF.len;have PN:=zhd (yhl w2 ea en ec l (HH.o.2.1.below Aa.o.1) Ar (by omega));have HF:=zh4 Cj Ar Cz Bn;clear SF Cj Ar Cz Bn H2;go_wp2_with fail;refine PN.o.mono ?_;rintro e w3 ⟨r,rfl,H3⟩;have D:=zh3 (Aa.o.1.trans (H3.o.2.mono Aa.o.1.size)) (Aa.o.2.1.below H3.o.2) ((H3.o.2.block (W.heap.size+1) (zlt Aa.o.2.2)).trans Aa.o.2.2);obtain⟨q0,q1,q2,q3,ql⟩:=D.o.2.1.all5;have z0:=zca D.o.2.2 0 rfl;have z1:=zca D.o.2.2 1 rfl;have zl:=zlt D.o.2.2;cases r with
  |false=>
   clear PN H3;go_wp2;go_ret;exact⟨rfl,D.o.1⟩
  |true=>
   have C4:=zhd (H3.o.1 rfl).1;clear PN H3;by_cases hp0:30<n0
   .have d0:decide ((30:Int)<(n0:Int))=true:=zno (by omega)
    have d1:(30:Int)<(n0:Int):=by omega
    go_wp2;go_ret;exact⟨rfl,D.o.1⟩
   .have d0:decide ((30:Int)<(n0:Int))=false:=znd (by omega)
    have d1:¬(30:Int)<(n0:Int):=by omega
    by_cases hp1:30<n1
    .have d2:decide ((30:Int)<(n1:Int))=true:=zno (by omega)
     have d3:(30:Int)<(n1:Int):=by omega
     go_wp2;go_ret;exact⟨rfl,D.o.1⟩
    .have d2:decide ((30:Int)<(n1:Int))=false:=znd (by omega)
     have d3:¬(30:Int)<(n1:Int):=by omega
     have NN:=zhd (yhr _ w3 i p (HH.o.1.below D.o.1) HF.o.1 _ HF.o.2.2.1);have Bp:=zh2 (show n0<=30 by omega) (show n1<=30 by omega);go_wp2_with fail;refine NN.o.mono ?_;rintro e w4 (⟨An,rfl,H4⟩|⟨hz,b4,v4,rfl,H4⟩)
     .have Di:(er==0)=false:=by rw[zna];exact An
      have n2:(er !=0)=true:=by unfold bne;rw[Di];rfl
      have C:=zhd (D.o.1.trans (H4.o.mono D.o.1.size));clear NN H4 An;go_wp2;go_ret;exact⟨rfl,C.o⟩
     .subst hz
      have B4:=H4.o.2.2;have C:=zh3 (D.o.1.trans (B4.mono D.o.1.size)) (D.o.2.1.below B4) ((B4.block (W.heap.size+1) zl).trans D.o.2.2);clear NN H4 B4 q0 q1 q2 q3 ql z0 z1 zl hp0 hp1 d0 d1 d2 d3;obtain⟨q0,q1,q2,q3,ql⟩:=C.o.2.1.all5;have z0:=zca C.o.2.2 0 rfl;have z1:=zca C.o.2.2 1 rfl;have zl:=zlt C.o.2.2;have WA:=zhd (yeI _ w4 (HG.o.below C.o.1) (znf HG.o.n C.o.1.size) i p (HH.o.1.below C.o.1) HF.o.1 fa at_ HF.o.2.2.1 ea en ec l ((HH.o.2.1.below C.o.1).mono (fun q h _=>znj h C.o.1.size)) HF.o.2.1 HF.o.2.2.2 C4.o a0 c0 l0 n0 HP.o.1 Bp.o.1 (HP.o.2.1.below C.o.1));go_wp2_with fail;refine WA.o.mono ?_;rintro e w5 ⟨ka,rfl,H5⟩;obtain⟨D0,Y,ma,ta,sa,C8,Wa,Cq,Cv,Dn,Dk,B5⟩:=H5.o;have F:=zh3 (C.o.1.trans (B5.mono C.o.1.size)) (C.o.2.1.below B5) ((B5.block (W.heap.size+1) zl).trans C.o.2.2);have HA:=zh4 C8 Wa Cq Cv;clear WA H5 C8 Wa Cq Cv Dn Dk B5 q0 q1 q2 q3 ql z0 z1 zl;obtain⟨q0,q1,q2,q3,ql⟩:=F.o.2.1.all5;have z0:=zca F.o.2.2 0 rfl;have z1:=zca F.o.2.2 1 rfl;have zl:=zlt F.o.2.2
      have WB:=zhd (yeI _ w5 (HG.o.below F.o.1) (znf HG.o.n F.o.1.size) i p (HH.o.1.below F.o.1) HF.o.1 fa at_ HF.o.2.2.1 ea en ec l ((HH.o.2.1.below F.o.1).mono (fun q h _=>znj h F.o.1.size)) HF.o.2.1 HF.o.2.2.2 C4.o a1 c1 l1 n1 HP.o.2.2.1 Bp.o.2 (HP.o.2.2.2.below F.o.1));go_wp2_with fail;refine WB.o.mono ?_;rintro e Z ⟨kb,rfl,H6⟩;obtain⟨Dz,V,mb,tb,sb,A5,Wb,Cp,Cu,Dm,Dj,B6⟩:=H6.o;have O:=zh2 (F.o.1.trans (B6.mono F.o.1.size)) (F.o.2.1.below B6);obtain⟨aa,ca,Co⟩:=HA.o.1.row.slice;obtain⟨na,Bz⟩:∃n,Y.list.length=n:=⟨_,rfl⟩;rw[Bz]at Co;subst Co;obtain⟨ab,cb,Cn⟩:=A5.row.slice;obtain⟨nb,By⟩:∃n,V.list.length=n:=⟨_,rfl⟩;rw[By]at Cn;subst Cn;have Ah:∀{pc:Img} {b:BK} {m t s:Nat},Wr pc fa b m t s->t<=m->m<=l.length->b.list.length<=700000/\(ya1 b.list).length<=20/\(∀e∈b.list,yad e=0/\e.v.wf/\szV e.v<=1073741824):=fun W h1 h2=>⟨by have h3:=W.bk.len (by have:=HF.o.2.2.2;omega);have:=HF.o.2.2.2;omega,by have:=W.bk.o;have:=HF.o.2.2.2;omega,fun e he=>⟨(W.bk.evs e he).1,(W.bk.evs e he).2,by have:=ycS (x:=e.v) ⟨(ybn (W.bk.evs e he).1).2.2.2.2.2.2.2,(W.bk.evs e he).2⟩;omega⟩⟩
      have Af:=HA.o.1.ext B6;have A:=zh6 (Ah HA.o.2.1 HA.o.2.2.1 HA.o.2.2.2) (Ah Wb Cp Cu) HA.o.2.1 Wb Bz By;have EA:XRd (fun q=>q<Z) Z (.slice aa na ca) Y.list:=Af.row.rd (fun q _ h=>h) (fun q hq=>Af.row.lt hq);have EB:XRd (fun q=>q<Z) Z (.slice ab nb cb) V.list:=A5.row.rd (fun q _ h=>h) (fun q hq=>A5.row.lt hq);have HE:=zh4 EA EB Af A5;clear WB H6 A5 Wb Cp Cu Dm Dj B6 q0 q1 q2 q3 ql z0 z1 zl Bz By Ah Af EA EB;obtain⟨_,_,_,_,s4,_,sl,_⟩:=HE.o.2.2.1.q;obtain⟨_,_,_,_,u4,_,ul,_⟩:=HE.o.2.2.2.q;obtain⟨q0,q1,q2,q3,ql⟩:=O.o.2.all5;have OA:=zhd (fun X (B:Below Z Z X)=>yfx X aa na ca Y.list (HE.o.1.below B) (fun e h=>(A.o.1.2.2 e h).2.2) (by have:=A.o.1.1;omega));have OB:=zhd (fun X (B:Below Z Z X)=>yfx X ab nb cb V.list (HE.o.2.1.below B) (fun e h=>(A.o.2.1.2.2 e h).2.2) (by have:=A.o.2.1.1;omega));have hD:Below Z Z Z.drew:=(znv _ _).drew;go_upto_region 12 with(fail);go_cut [13,14] (fun v13 v14 wx=>yoY Z ((ya1 Y.list).map ybf) ((ya1 V.list).map ybf) v13 v14 wx)
      case first=>
       go_region_law (first
        |(go_simp;go_at_call 27;refine(OB.o _ A0.o.2).mono ?_;rintro e w8 ⟨yv,rfl,H8⟩;obtain⟨b2,m2,d2,rfl⟩:=yaI H8.o.1)
        |(go_simp;go_at_call 27;refine(OA.o _ (by first|exact hD|exact znv _ _)).mono ?_;rintro e w7 ⟨xv,rfl,H7⟩;obtain⟨b1,m1,d1,rfl⟩:=yaI H7.o.1;have A0:=zh2 H7.o (by first|exact hD.trans H7.o.2.2|exact H7.o.2.2);have Df:=(A0.o.2.cell (p:=⟨kb,4,none⟩) ul).trans u4;have De:=znj ul A0.o.2.size))
       all_goals
        go_wp2_with fail;go_meet
        case rel=>exact⟨w7,_,_,_,_,_,_,rfl,rfl,A0.o.2,by first|exact H8.o.2.2|exact((znv _ _).drew).trans H8.o.2.2,A0.o.1.1,H8.o.1,H8.o.2.1⟩
      case rest=>
       obtain⟨w7,ax,nx,cx,ay,ny,cy,rfl,rfl,Bg,Be,Au,At,C1⟩:=hcut;obtain⟨w8,Cm⟩:∃w8,w8=wc:=⟨_,rfl⟩;rw[<-Cm]at Be At|-;have Bt:Z<=w7.heap.size:=Bg.size;obtain⟨xs,Ai⟩:∃xs,(ya1 Y.list).map ybf=xs:=⟨_,rfl⟩;obtain⟨ys,A7⟩:∃ys,(ya1 V.list).map ybf=ys:=⟨_,rfl⟩;rw[Ai]at Au;rw[A7]at At;have Bv:xs.length=nx:=by obtain⟨_,_,h⟩:=Au.slice;cases h;rfl
       have Ct:ys.length=ny:=by obtain⟨_,_,h⟩:=At.slice;cases h;rfl
       have Bk:nx<=20:=by rw[<-Bv,<-Ai,zmd];exact A.o.1.2.1
       have Ch:∀e∈xs,yad e=0/\e.v.wf:=fun e he=>by
        rw[<-Ai]at he;obtain⟨f,hf,rfl⟩:=List.mem_map.1 he;have h1:=A.o.1.2.2 f (List.mem_filter.1 hf).1;exact⟨by rw[ygB];exact h1.1,ybd _ h1.2.1⟩
       have Cf:∀e∈ys,e.v.wf:=fun e he=>by
        rw[<-A7]at he;obtain⟨f,hf,rfl⟩:=List.mem_map.1 he;exact ybd _ (A.o.2.1.2.2 f (List.mem_filter.1 hf).1).2.1
       have Cg:xs.map yaX=(ya1 Y.list).map yaX:=by rw[<-Ai,ycI]
       have z:ys.map yaX=(ya1 V.list).map yaX:=by rw[<-A7,ycI]
       have EX:XRd (fun q=>q<w7) w7 (.slice ax nx cx) xs:=Au.rd (fun q _ h=>h) (fun q hq=>Au.lt hq);have C9:Below Z Z w8:=Bg.trans (Be.mono Bt);have R:=zh8 EX At C1 (show Below w7 w7 w8 from Be) Bk Ch Cf (zai Cg (zai z (zai Bv Ct)));have Az:=zh3 C9 Bg Bt;clear Au At C1 Bg Be Bt Ai A7 Bv Ct Bk Ch Cf Cg z EX C9 OA OB s4 u4 sl ul hD Cm;by_cases A8:nx=ny
       .subst A8
        have n1:((nx:Int)==(nx:Int))=true:=beq_self_eq_true _;have n2:((nx:Int)!=(nx:Int))=false:=by unfold bne;rw[n1];rfl
        go_wp2_with fail;go_loopg [91] nx (fun gk v91 wr=>ypW w7 (.slice ax nx cx) (.slice ay nx cy) nx xs ys gk v91 wr)
        case atStart=>exact⟨0,ys,rfl,znq _,rfl,R.o.2.1,rfl,rfl,R.o.2.2.2.2.2.2.1,R.o.2.2.2.1⟩
        case round=>
         obtain⟨jx,y',rfl,hi,d,Yr,z,Am,Br,BW⟩:=hrel;have Bs:y'.length=nx:=by have h:=congrArg List.length z;rw[zmd,zmd]at h;rw[h];exact R.o.2.2.2.2.2.2.2.2.2.2
         by_cases hin:jx<nx
         .obtain⟨x,hx⟩:=yac (l:=xs) (k:=jx) (by rw[R.o.2.2.2.2.2.2.2.2.2.1];exact hin)
          obtain⟨f,hf⟩:=yac (l:=y') (k:=jx) (by rw[Bs];exact hin);obtain⟨g,Dg,vk,vn,vs,la,ln,lc,rfl,B3,hg,dv,y0,y1,y2,y3,y4,y5,y6,y7,y8,y9,y10⟩:=ycU (R.o.1.below BW) hx;obtain⟨g',Bj,uk,un,us,ua,ul,uc,rfl,Ae,A9,du,t0,t1,t2,t3,t4,t5,t6,t7,t8,t9,Ag⟩:=ycU (Yr.rd (G:=fun q=>w7<=q) (fun q h _=>h.1) (fun q h=>R.o.2.2.1 q h)) hf;obtain⟨ks,hR,_⟩:=Yr.cells;have ff:∀o,wr.frozen? ⟨g',o,none⟩=false:=fun o=>hR.frozen o;have An:¬g=g':=fun e=>by have B3:g<w7:=B3;have Ae:w7<=g':=Ae;omega
          have Dv:¬g'=g:=fun e=>An e.symm;have Dy:(jx:Int)<nx:=by omega
          have C3:=zhd (show wrap64 ((jx:Int)+1)=(jx:Int)+1 by have:=R.o.2.2.2.2.1;unfold wrap64;omega);have HM:=zhd (show nx - (jx+1)<gk by omega);have Q:=zh8 Yr z Am Br BW hx hf Ae;have HD:=zh2 dv du;clear d Yr z Am Br BW hx hf B3 Ae hR dv du Bs hi;obtain⟨e0,e1,e2,e3,e4,e5,e6,ex⟩:=x;obtain⟨f0,f1,f2,f3,f4,f5,f6,fx⟩:=f;dsimp only at y0 y1 y2 y3 y4 y5 y6 t0 t1 t2 t3 t4 t5 t6;go_upto_region 19 with(fail);refine yaa ?_;intro w9 Cl;have Aj:w9=wr.setCell ⟨g',Bj+jx*11,none⟩ (.int .i64 e0):=by rw[Cl]
          have X9:=XRow.setId Q.o.1 Q.o.2.2.2.2.2.2.1 e0;rw[<-Aj]at X9;have K9:Keeps (fun q=>q=g') wr w9:=by rw[Aj];exact Keeps.setCell (S:=fun q=>q=g') (p:=⟨g',_,none⟩) (Keeps.refl _ _) (.inl rfl) _
          rw[<-K9.cell (p:=⟨g,_,none⟩) hg An]at y0 y1 y2 y3 y4 y5 y6 y7 y8 y9 y10;have Aq:g<w9:=znj hg K9.size;have B9:Below w7 w7 w9:=Q.o.2.2.2.2.1.trans (K9.below Q.o.2.2.2.2.1.size (fun q hq e=>by have:=Q.o.2.2.2.2.2.2.2;have e:q=g':=e;omega));obtain⟨h1,h2,zk,zn,zs,za,zl,zc,hh,Dq,hz,dz,z0,z1,z2,z3,z4,z5,z6,z7,z8,z9,z10⟩:=ycU (X9.rd (G:=fun q=>w7<=q) (fun q h _=>h.1) (fun q h=>R.o.2.2.1 q h)) (show(y'.set jx ⟨e0,f1,f2,f3,f4,f5,f6,fx⟩)[jx]? =some _ from by rw[List.getElem?_set_self (zge Q.o.2.2.2.2.2.2.1).1]);cases hh;dsimp only at z0 z1 z2 z3 z4 z5 z6;obtain⟨r,hr⟩:∃r,yde ⟨e0,e1,e2,e3,e4,e5,e6,ex⟩ ⟨e0,f1,f2,f3,f4,f5,f6,fx⟩=r:=⟨_,rfl⟩;have RS:=zhd (fun X (B:Below w9 w9 X)=>yfb e0 e1 e2 e3 e4 e5 e6 vk vn vs la ln lc e0 f1 f2 f3 f4 f5 f6 zk zn zs za zl zc ex fx _ _ X ((HD.o.1.keep K9 (fun q h e=>by have h:q<w7:=h;have:=Q.o.2.2.2.2.2.2.2;have e:q=g':=e;omega)).keep (S:=fun _=>False) (zkb B) (fun _ _ f=>f)) (dz.keep (S:=fun _=>False) (zkb B) (fun _ _ f=>f)) (R.o.2.2.2.2.2.1 _ (zmg Q.o.2.2.2.2.2.1)).2 (Q.o.2.2.2.1 _ (zmg Q.o.2.2.2.2.2.2.1)) r hr);have H9:=zh3 X9 B9 hr
          clear X9 B9 hr K9 Cl Aj Dq t0 t1 t2 t3 t4 t5 t6 t7 t8 t9 Ag dz ff
          go_still_tail 8,(by kernel_rfl)
          go_wp2_with fail;refine(RS.o _ (by first|exact znv _ _|exact(znv _ _).drew)).mono ?_;rintro e Dd ⟨rfl,Ax⟩;have Cc:=zhd (show Below w9 w9 Dd from by first|exact Ax|exact((znv w9.heap.size w9).drew).trans Ax);clear RS Ax y0 y1 y2 y3 y4 y5 y6 y7 y8 y9 y10 z0 z1 z2 z3 z4 z5 z6 z7 z8 z9 z10 Aq hz;cases r with
          |false=>
           have HT:=zhd (O.o.1.trans ((Az.o.2.1.trans ((H9.o.2.1.trans (Cc.o.mono H9.o.2.1.size)).mono Az.o.2.2)).mono O.o.1.size));go_wp2;go_ret;exact⟨rfl,HT.o⟩
          |true=>
           have D3:=C3.o;go_wp2_with fail;go_roundg (nx - (jx+1))
           case measure=>exact HM.o
           case rel=>exact⟨jx+1,_,by first|(simp;done)|(simp;exact C3.o),hin,rfl,H9.o.1.below Cc.o,by
             rw[List.map_set];rw[<-Q.o.2.1];refine List.ext_getElem? fun k=> ?_;rw[List.getElem?_set];split
             .rename_i hk
              subst hk;rw[List.getElem?_map,Q.o.2.2.2.2.2.2.1,if_pos (by rw[zmd];exact(zge Q.o.2.2.2.2.2.2.1).1)];rfl
             .rfl,by
             rw[List.take_add_one,List.take_add_one,List.map_append,List.map_append,Q.o.2.2.1,Q.o.2.2.2.2.2.1]
             congr 1
             have h1:=congrArg (fun q=>q[jx]?) Q.o.2.1;simp only[List.getElem?_map,Q.o.2.2.2.2.2.2.1]at h1;cases hq:ys[jx]? with
             |none=>rw[hq]at h1;cases h1
             |some q=>
              rw[hq]at h1;have h1:yaX ⟨f0,f1,f2,f3,f4,f5,f6,fx⟩=yaX q:=Option.some.inj h1;show[yaX _]=[yaX q];rw[<-h1,yiV H9.o.2.2];rfl,fun e he=>by
             rcases List.mem_or_eq_of_mem_set he with h|rfl
             .exact Q.o.2.2.2.1 e h
             .exact Q.o.2.2.2.1 ⟨f0,f1,f2,f3,f4,f5,f6,fx⟩ (zmg Q.o.2.2.2.2.2.2.1),H9.o.2.1.trans (Cc.o.mono H9.o.2.1.size)⟩
         .obtain rfl:jx=nx:=by omega
          have Do:¬(jx:Int)<jx:=by omega
          have A8:xs.map yaX=ys.map yaX:=by
           rw[zmj (by have:=R.o.2.2.2.2.2.2.2.2.2.1;omega),zmj (by have:=R.o.2.2.2.2.2.2.2.2.2.2;omega)]at Am;exact Am
          have Bf:Below Z Z wr:=Az.o.2.1.trans (BW.mono Az.o.2.2);have Bd:=O.o.1.trans (Bf.mono O.o.1.size);obtain⟨q0,q1,q2,q3,ql⟩:=(O.o.2.below Bf).all5;have ST:=zhd (ye7 _ wr (HG.o.below Bd) i p (HH.o.1.below Bd) HF.o.1 _ HF.o.2.2.1 ax jx cx xs ((R.o.1.below BW).mono (fun q h _=>znj h BW.size)) (fun e h=>(R.o.2.2.2.2.2.1 e h).2) (by have:=R.o.2.2.2.2.2.2.2.2.2.1;have:=R.o.2.2.2.2.1;omega));have Dt:=zhd A8;have C5:=zh2 Bf Bd;clear d Yr z Am Br BW Bs hi A8 Bf Bd;go_wp2_with fail;refine ST.o.mono ?_;rintro e M (⟨h,_⟩|⟨_,al,rfl,Cb⟩)
          .exact absurd rfl h
          obtain⟨all,I⟩:∃all,ybk (yaf p) xs=all:=⟨_,rfl⟩;have Ay:=Cb.o.1;rw[I]at Ay;obtain⟨nl,Bx⟩:∃n,all.length=n:=⟨_,rfl⟩;obtain⟨Ds,Dr,rfl⟩:∃a c,al= .slice a nl c:=by rw[<-Bx];exact Ay.slice
          have C7:XRd (fun q=>q<M) M (.slice Ds nl Dr) all:=Ay.rd (fun q _ h=>h) (fun q hq=>Ay.lt hq);have J:=C5.o.1.trans (Cb.o.2.2.mono C5.o.1.size);have Cs:∃k,all=(ycF Y.list).map yaX++k:=by rw[<-I];exact A.o.2.2.1.agree (fun e h=>(R.o.2.2.2.2.2.1 e h).1) R.o.2.2.2.2.2.2.2.1
          have Cr:∃k,all=(ycF V.list).map yaX++k:=by rw[<-I];exact A.o.2.2.2.1.agree (fun e h=>(R.o.2.2.2.2.2.1 e h).1) (Dt.o.trans R.o.2.2.2.2.2.2.2.2.1)
          have T:=zh5 C7 J Bx Cs Cr;have MA:=zhd (fun X (B:Below M M X)=>yfB X aa na ca Y.list (HE.o.1.below (J.trans (B.mono J.size))) (fun e h=>(A.o.1.2.2 e h).2.2) (by have:=A.o.1.1;omega));have MB:=zhd (fun X (B:Below M M X)=>yfB X ab nb cb V.list (HE.o.2.1.below (J.trans (B.mono J.size))) (fun e h=>(A.o.2.1.2.2 e h).2.2) (by have:=A.o.2.1.1;omega));have hD:Below M M M.drew:=(znv _ _).drew;obtain⟨_,_,_,_,s4,_,sl,_⟩:=(HE.o.2.2.1.ext J).q;obtain⟨_,_,_,_,u4,_,ul,_⟩:=(HE.o.2.2.2.ext J).q;clear ST Cb Ay I Bx C7 J Cs Cr q0 q1 q2 q3 ql;go_upto_region 25 with(fail);go_cut [132,133] (fun v132 v133 wx=>∃v v':Value,v132= .agg #[v,v']/\v133= .int .i64 0/\yoY M ((ycF Y.list).map ybf) ((ycF V.list).map ybf) v v' wx)
          case first=>
           go_region_law (first
            |(go_simp;go_at_call 30;refine(MB.o _ A4.o.2).mono ?_;rintro e w13 ⟨bv,rfl,A3⟩;obtain⟨b2,m2,d2,rfl⟩:=yaI A3.o.1)
            |(go_simp;go_at_call 30;refine(MA.o _ (by first|exact hD|exact znv _ _)).mono ?_;rintro e Ce ⟨av,rfl,Ab⟩;obtain⟨b1,m1,d1,rfl⟩:=yaI Ab.o.1;have A4:=zh2 Ab.o (by first|exact hD.trans Ab.o.2.2|exact Ab.o.2.2);have Df:=(A4.o.2.cell (p:=⟨kb,4,none⟩) ul).trans u4;have De:=znj ul A4.o.2.size))
           all_goals
            go_wp2_with fail;go_meet
            case rel=>exact⟨_,_,rfl,rfl,Ce,_,_,_,_,_,_,rfl,rfl,A4.o.2,by first|exact A3.o.2.2|exact((znv _ _).drew).trans A3.o.2.2,A4.o.1.1,A3.o.1,A3.o.2.1⟩
          case rest=>
           obtain⟨_,_,rfl,rfl,Ce,b1,m1,d1,b2,m2,d2,rfl,rfl,Cd,Bh,Ab,Bc,_⟩:=hcut;obtain⟨w13,Bm⟩:∃w13,w13=wc:=⟨_,rfl⟩;rw[<-Bm]at Bh Bc|-;have Ac:Below M M w13:=Cd.trans (Bh.mono Cd.size);have B7:=Ab.below Bh;have U:∀(b:BK),b.list.length<=700000->(∀e∈b.list,yad e=0/\e.v.wf/\szV e.v<=1073741824)->(∀e∈ycF b.list,e.v.wf)/\(ycF b.list).length<=3000000:=fun b h1 h2=>⟨fun e he=>(h2 e (List.mem_filter.1 he).1).2.1,znf (List.length_filter_le _ _) (by omega)⟩;have A1:AgRow w13 all (.slice b1 m1 d1):=by
            obtain⟨k,hk⟩:=T.o.2.2.2.1;exact⟨b1,m1,d1,_,k,rfl,B7.rd (fun q _ h=>h) (fun q hq=>B7.lt hq),hk,U _ A.o.1.1 A.o.1.2.2⟩
           have A2:AgRow w13 all (.slice b2 m2 d2):=by
            obtain⟨k,hk⟩:=T.o.2.2.2.2;exact⟨b2,m2,d2,_,k,rfl,Bc.rd (fun q _ h=>h) (fun q hq=>Bc.lt hq),hk,U _ A.o.2.1.1 A.o.2.1.2.2⟩
           have P:=zh4 A1 A2 (T.o.1.below Ac) ((O.o.1.trans (T.o.2.1.mono O.o.1.size)).trans (Ac.mono (znf O.o.1.size T.o.2.1.size)));clear MA MB Cd Bh Ab B7 Bc A1 A2 Ac U s4 sl u4 ul hD Bm;go_wp2_with fail;go_loopg [133] 2 (fun gk v133 wr=>ypX w13 gk v133 wr)
           case atStart=>exact⟨0,rfl,by omega,rfl,znv _ _⟩
           case round=>
            obtain⟨k,rfl,D5,d,y⟩:=hrel;obtain⟨wo,Ci⟩:∃wo,wo=wr:=⟨_,rfl⟩;rw[<-Ci]at y|-;clear Ci;by_cases hk:k<2
            .have D6:(k:Int)<2:=by omega
             have B8:=zh2 (show 2 - (k+1)<gk by omega) (show wrap64 ((k:Int)+1)=(k:Int)+1 by unfold wrap64;omega);have AW:=zh5 (P.o.1.ext y) (P.o.2.1.ext y) (P.o.2.2.1.below y) y (P.o.2.2.2.trans (y.mono P.o.2.2.2.size));clear y d;go_upto_region 27 with(fail);go_cut [19] (fun v19 wx=>AgRow wo all v19/\wx=wo)
             case first=>
              have i0:∀X:World,(Instr.index 75 (.agg #[.slice b1 m1 d1,.slice b2 m2 d2]) (.int .i64 0)).run Tryz.prog X= .ok (.slice b1 m1 d1) X:=fun _=>by kernel_rfl
              have i1:∀X:World,(Instr.index 75 (.agg #[.slice b1 m1 d1,.slice b2 m2 d2]) (.int .i64 1)).run Tryz.prog X= .ok (.slice b2 m2 d2) X:=fun _=>by kernel_rfl
              obtain rfl|rfl:k=0\/k=1:=by omega
              .go_wp2_with fail
               go_meet
               case rel=>exact⟨AW.o.1,rfl⟩
              .go_wp2_with fail
               go_meet
               case rel=>exact⟨AW.o.2.1,rfl⟩
             case rest=>
              obtain⟨hA,Ck⟩:=hcut;rw[Ck];clear Ck;obtain⟨ra,rn,rc,ms,kk,rfl,RE,I,U,Ah⟩:=hA;have Bu:ms.length=rn:=by obtain⟨_,_,h⟩:=RE.slice;cases h;rw[zmd]
              have D4:rn<=nl:=by have h:=congrArg List.length I;rw[znk,zmd,T.o.2.2.1,Bu]at h;omega
              have d1:decide ((nl:Int)<(rn:Int))=false:=znd (by omega);have d2:¬(nl:Int)<(rn:Int):=by omega
              have HR:=zh5 RE I U Ah Bu;clear RE I U Ah Bu;go_wp2_with fail;go_loopg [143] rn (fun gk v143 wr=>yqw wo rn gk v143 wr)
              case atStart=>exact⟨0,rfl,znq _,rfl,znv _ _⟩
              case round=>
               obtain⟨j,rfl,hj,d,y⟩:=hrel;obtain⟨L,Bl⟩:∃x,x=wr:=⟨_,rfl⟩;rw[<-Bl]at y|-;clear Bl;by_cases hjn:j<rn
               .obtain⟨m,hm⟩:=yac (l:=ms) (k:=j) (by rw[HR.o.2.2.2.2];exact hjn)
                have Dl:(ms.map ybf)[j]? =some (ybf m):=by rw[List.getElem?_map,hm];rfl
                have Dp:all[j]? =some (yaX m):=by
                 rw[HR.o.2.1,List.getElem?_append_left (by rw[zmd];exact(zge hm).1),List.getElem?_map,hm];rfl
                obtain⟨g,Dg,vk,vn,vs,la,ln,lc,rfl,_,hg,dv,y0,y1,y2,y3,y4,y5,y6,y7,y8,y9,y10⟩:=ycU (HR.o.1.below y) Dl;obtain⟨g',Bj,uk,un,us,ua,ul,uc,rfl,_,A9,du,t0,t1,t2,t3,t4,t5,t6,t7,t8,t9,Ag⟩:=ycU (AW.o.2.2.1.below y) Dp;have U:=HR.o.2.2.1 m (zmg hm);have Dx:(j:Int)<rn:=by omega
                have D7:(j:Int)<nl:=by omega
                have C2:=zhd (show wrap64 ((j:Int)+1)=(j:Int)+1 by have:=HR.o.2.2.2.1;have:=HR.o.2.2.2.2;unfold wrap64;omega);have HM:=zhd (show rn - (j+1)<gk by omega);clear d hj;obtain⟨mi,mt,mk,A6,Bq,mn,mx,mv⟩:=m;obtain⟨bb,B1⟩:∃bb,(if mk=21 then(0:Int)else Bq)=bb:=⟨_,rfl⟩;dsimp only[ybf]at y0 y1 y2 y3 y4 y5 y6 dv;dsimp only[yaX]at t0 t1 t2 t3 t4 t5 t6 du;rw[B1]at t4;have HD:=zh5 dv du (ybd _ U) y B1;clear dv du U y B1;go_upto_region 33 with(fail);refine yaa ?_;intro Dc Ak;have Bi:=zba Ak;have As:=zha Ak;rw[<-Bi.cell (p:=⟨g',_,none⟩) A9]at t0 t1 t2 t3 t4 t5 t6 t7 t8 t9 Ag;have Aq:=znj A9 Bi.size;clear y0 y1 y2 y3 y4 y5 y6 y7 y8 y9 y10 Ak;obtain⟨x0,x1,x2,x3,x4,x5,x6,x7,x8,x9,x10,xl,xf⟩:=yay As;go_upto_region 34 with(fail);refine yaa ?_;intro w16 Ad;have Bo:w16.heap[L.heap.size]? =some (.cells #[.int .i64 0,mt,mk,A6,Bq,mn,mx,vk,vn,vs,.slice la ln lc] 40 (0,0)):=by
                 rw[Ad];simp[World.setCell,zni,As]
                have Da:Below L L w16:=by rw[Ad];exact Bi.setCell (znc _) _
                have u:=zh2 Bo Da;have Ao:¬g'=L.heap.size:=fun e=>by omega
                have K16:Keeps (fun q=>q=L) Dc w16:=by rw[Ad];exact Keeps.setCell (S:=fun q=>q=L) (p:=⟨L,0,none⟩) (Keeps.refl _ _) (.inl rfl) _
                rw[<-K16.cell (p:=⟨g',_,none⟩) Aq Ao]at t0 t1 t2 t3 t4 t5 t6 t7 t8 t9 Ag;have Ap:=znj Aq K16.size;clear x0 x1 x2 x3 x4 x5 x6 x7 x8 x9 x10 xl xf Ad As Bi K16 Bo Da Aq Ao;obtain⟨x0,x1,x2,x3,x4,x5,x6,x7,x8,x9,x10,xl,xf⟩:=yay u.o.1
                go_upto_if 151 with(fail)
                go_cut [] (fun wx=>ypY w16 L.heap.size (.cells #[.int .i64 0,mt,mk,A6,bb,mn,mx,vk,vn,vs,.slice la ln lc] 40 (0,0)) L wx)
                case first=>
                 by_cases h21:mk=21
                 .have Dh:(mk==21)=true:=by rw[beq_iff_eq];exact h21
                  have Ca:=zhd (show bb=0 by rw[<-HD.o.2.2.2.2,if_pos h21]);clear h21;go_wp2_with fail;go_meet
                  case rel=>
                   refine⟨?_,u.o.2.setCell (znc _) _,Keeps.setCell (S:=fun q=>q=L) (p:=⟨L,_,none⟩) (Keeps.refl _ _) (.inl rfl) _⟩;have:=u.o.1;rw[Ca.o];simp[World.setCell,zni,this]
                 .have Dh:(mk==21)=false:=by rw[zna];exact h21
                  have Ca:=zhd (show bb=Bq by rw[<-HD.o.2.2.2.2,if_neg h21]);clear h21;go_wp2_with fail;go_meet
                  case rel=>exact⟨by rw[Ca.o];exact u.o.1,u.o.2,Keeps.refl _ _⟩
                case rest=>
                 obtain⟨C0,Ba,B2⟩:=hcut;have Ao:¬g'=L.heap.size:=fun e=>by omega
                 rw[<-B2.cell (p:=⟨g',_,none⟩) Ap Ao]at t0 t1 t2 t3 t4 t5 t6 t7 t8 t9 Ag;have Cx:=znj Ap B2.size;have RS:=zhd (fun X (B:Below wc wc X)=>yfb 0 mt mk A6 bb mn mx vk vn vs la ln lc 0 mt mk A6 bb mn mx uk un us ua ul uc (yab mv) (yab mv) _ _ X ((HD.o.1.keep (S:=fun _=>False) (zkb Ba) (fun _ _ f=>f)).keep (S:=fun _=>False) (zkb B) (fun _ _ f=>f)) ((HD.o.2.1.keep (S:=fun _=>False) (zkb Ba) (fun _ _ f=>f)).keep (S:=fun _=>False) (zkb B) (fun _ _ f=>f)) HD.o.2.2.1 HD.o.2.2.1 true (yiU _));have C6:=zhd (HD.o.2.2.2.1.trans (Ba.mono HD.o.2.2.2.1.size));clear x0 x1 x2 x3 x4 x5 x6 x7 x8 x9 x10 xl xf Ba B2 Ap hg A9 Ao;obtain⟨x0,x1,x2,x3,x4,x5,x6,x7,x8,x9,x10,xl,xf⟩:=yay C0;clear C0;go_upto_region 36 with(fail)
                 go_still_tail 5,(by kernel_rfl)
                 go_wp2_with fail;refine(RS.o _ (by first|exact znv _ _|exact(znv _ _).drew)).mono ?_;rintro e Db ⟨rfl,Av⟩;have Du:=zhd (C6.o.trans ((show Below wc wc Db from by first|exact Av|exact((znv wc.heap.size wc).drew).trans Av).mono C6.o.size));clear RS Av x0 x1 x2 x3 x4 x5 x6 x7 x8 x9 x10 xl xf t0 t1 t2 t3 t4 t5 t6 t7 t8 t9 Ag Cx;have D2:=C2.o;go_wp2_with fail;go_roundg (rn - (j+1))
                 case measure=>exact HM.o
                 case rel=>exact⟨j+1,by first|(simp;done)|(simp;exact C2.o),hjn,rfl,Du.o⟩
               .obtain rfl:j=rn:=by omega
                have Do:¬(j:Int)<j:=by omega
                have HT:=zhd (AW.o.2.2.2.1.trans (y.mono AW.o.2.2.2.1.size));clear y d hj;have D1:=B8.o.2;go_wp2_with fail;go_roundg (2 - (k+1))
                case measure=>exact B8.o.1
                case rel=>exact⟨k+1,by first|(simp;done)|(simp;exact B8.o.2),by omega,rfl,HT.o⟩
            .obtain rfl:k=2:=by omega
             have HT:=zhd (P.o.2.2.2.trans (y.mono P.o.2.2.2.size));clear y d;go_wp2;go_ret;exact⟨rfl,HT.o⟩
       .have n1:((nx:Int)==(ny:Int))=false:=by rw[zna];omega
        have n2:((nx:Int)!=(ny:Int))=true:=by unfold bne;rw[n1];rfl
        have HT:=zhd (O.o.1.trans (Az.o.1.mono O.o.1.size));go_wp2;go_ret;exact⟨rfl,HT.o⟩
end Go.Proofs.YtpagmlndgblhhaaGreatDoor
namespace Go
variable{H:Type} {enc:TypeId×Value->H}
theorem yhw {a:Assume}{C:Checked}{os:Os}{f:FuncId}{fn:Func}{s:ChangeSpec}{conds:List PathCond}{apart fresh handsOn again:Bool}{X:World->Array Value->Prop}
  (hX:∀(w w':World) (args:Array Value),w.heap=w'.heap->X w args->X w' args)
  (own:ownKnob C.prog.godebug=none)(started:os.Started)(noInit:C.prog.inits.idxOf? f=none)(hfn:C.prog.funcs[f]? =some fn)
  (witness:∃(w:World) (tape:Tape) (i:Input),w.os=os/\(w.forCall tape i).Shaped C.prog/\i.vars=[]/\Input.okWide C.prog (w.forCall tape i) .any w.heap.size f i/\
    ((s.pre enc C.prog fn conds apart (w.forCall tape i).memory i.args/\X (w.forCall tape i).memory i.args)/\sizedMet enc C.prog fn (OpenSpec.ofChange s) apart (w.forCall tape i).memory i.args)/\a.holds C.prog (lone (Frame.enter C.prog f i.args .normal) [] (w.forCall tape i)))
  (contract:∀(W:World) (base:Nat) (args:Array Value) (ds gs:List (DataW H)) (before:List MemPlace),
    (∀(j:Nat) t v,fn.params[j]? =some t->args[j]? =some v->Value.okWide C.prog W .any base t v)->
    DataW.Whole enc C.prog fn.params.toList s.vars apart W args.toList ds gs before->X W args->W.ShapedOpen C.prog->
    Calls C.prog f args W fun e W'=>∃v,e= .returned v/\s.post enc C.prog fn apart fresh handsOn again W args v W'):
  ReturnsInHanded a C os f .any (fun w args=>(s.pre enc C.prog fn conds apart w args/\X w args)/\sizedMet enc C.prog fn (OpenSpec.ofChange s) apart w args) (s.post enc C.prog fn apart fresh handsOn again):=by
 refine returnsInHanded_of_calls own started noInit witness ?_;intro w tape i _ F _ G B _;obtain⟨_,_,_,I,D,_,_,_,_,A⟩:=G;have e:I=fn:=Option.some.inj (D.symm.trans hfn);subst e;obtain⟨⟨⟨ds,gs,before,K,M⟩,J⟩,L⟩:=B;have E:=DataW.Whole.of_heap (w':=w.forCall tape i) (by rfl) K;refine(contract (w.forCall tape i) w.heap.size i.args ds gs before A E (hX _ _ _ (by rfl) J) F).mono fun e W' ⟨v,he,hp⟩=> ?_;subst he;exact ChangeSpec.post_blind hp
end Go
namespace Go.Proofs.YtpagmlndgblhhaaGreatDoor
open Go.RowKit Go.Own Go.Own.MapTy Go.Va Go.Sort
theorem ypZ: "*errors.errorString" = "*" ++ "errors.errorString" :=by kernel_rfl
theorem ykb (u:TypeId)(h:Tryz.prog.typeName? 3 u=some "*errors.errorString"):u=295:=
 typeName_ptr_named (nm:= "errors.errorString") (by rw[←ypZ];kernel_rfl) (by kernel_rfl) (by decide) u (by rw[←ypZ];exact h)
theorem ypt:Tryz.prog.globalNamed "internal/strconv.uint64pow10" =some 5:=by kernel_rfl
theorem yp3:Tryz.prog.globalNamed "strconv.ErrSyntax" =some 3:=by kernel_rfl
theorem ypu:Tryz.prog.globalNamed "strconv.ErrRange" =some 4:=by kernel_rfl
theorem you {W:World}(h:W.ShapedOpen Tryz.prog):∃m,W.cell? ⟨0,0,none⟩=some (.int .i64 m):=
 cell_of_shapedOpen_int (t:=3) (zero:=#[.int .i64 0]) h (znx (by kernel_rfl)) (by kernel_rfl) (by kernel_rfl) (by kernel_rfl) (by kernel_rfl) (by kernel_rfl)
theorem ymA {P:Program}{W:World}{s:String}{g:Nat}{cs:Array Value}(hg:P.globalNamed s=some g)(h:W.var? P s=some cs):g<W:=by
 unfold World.var? at h;rw[hg]at h;by_cases hl:g<W
 .exact hl
 .have:W.heap[g]? =none:=Array.getElem?_eq_none (by omega)
  simp[this]at h
theorem yps {W:World}(h:laidMetH Tryz.prog Rows.replayRefusesRow.laid W)(hS:W.ShapedOpen Tryz.prog):Gl Tryz.prog 6 W:=by
 rw[MakeChecks.laidMetH_plain _ _ _ (by kernel_rfl)]at h;have D:=h.tail.tail;have C:=D.tail.tail;have F:=C.tail;have E:=Lib.tabIs_of_head (zs:=Lib.pow10Tab) (k:=.u64) (n:=20) ypt (t:=298) (by kernel_rfl) Tryz.underlying298 Tryz.underlying188 (by kernel_rfl) (by kernel_rfl) D;obtain⟨K,G,A,_⟩:=laid_sentinel (ti:=250) (tp:=295) (te:=297) (ts:=9) C ypu (by kernel_rfl) Tryz.underlying250 ykb Tryz.underlying295 Tryz.underlying297 rfl rfl Tryz.underlying9 (by kernel_rfl) (by kernel_rfl);obtain⟨L,H,B,_⟩:=laid_sentinel (ti:=250) (tp:=295) (te:=297) (ts:=9) F yp3 (by kernel_rfl) Tryz.underlying250 ykb Tryz.underlying295 Tryz.underlying297 rfl rfl Tryz.underlying9 (by kernel_rfl) (by kernel_rfl);exact⟨you hS,⟨_,_,B⟩,⟨_,_,A⟩,E,⟨3,4,5,yp3,ypu,ypt,by decide,by decide,by decide⟩,by decide,by have J:=ymA ypu A;have I:=ymA ypt E;omega⟩
end Go.Proofs.YtpagmlndgblhhaaGreatDoor
