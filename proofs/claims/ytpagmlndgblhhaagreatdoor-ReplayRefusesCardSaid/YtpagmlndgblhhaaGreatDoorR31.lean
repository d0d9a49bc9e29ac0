/- Parts of the proof: what the functions and the plain laws give that later parts lean on. Conditions: none beyond those that each theorem names. -/
import Derived.HandedShaped
import Derived.LaidMore
import Derived.Lay
import Derived.MakeChecks
import Derived.Stop.LaidErr
import Derived.Shelf.Vars
import Derived.ChangeOld
import Derived.Test.YtpagmlndgblhhaaGreatDoorR30
set_option maxRecDepth 100000
set_option maxHeartbeats 8000000
namespace Go.Proofs.YtpagmlndgblhhaaGreatDoor
open Go.RowKit Go.Own Go.Own.MapTy Go.Va Go.Sort
open Go.Own.Cells (sz enc)
set_option linter.unusedVariables false
set_option linter.unusedSimpArgs false
theorem ydR {p:Img}{r:RP}{e:Ev}(h0:r.err=0){q:Int}(h:ybh r e=q)(hq:q≠0):yaK p r [e]={r with err:=q}:=by
 rw[ycJ h0,yjs (by rw[h];exact hq),h];rfl
def yoA (p:Img)(fa:Fa)(N0 rb b mb n:Nat)(W:World)(gk:Nat)(v45 v9 v10:Value)(wr:World):Prop:=
 ∃(j:Nat) (v:MV) (r:RP),v45= .int .i64 j∧v9= .bool r.closed∧v10= .int .i64 (r.seen:Int)∧j≤n∧gk=n - j∧LwR p fa N0 rb b mb v r wr∧Below W.heap.size W wr∧r.err=0∧r.seen=j∧r.m.events≤j
theorem yfq {N:Nat}(i:IC)(p:Img)(W:World)(G:Gl Tryz.prog N W)(H:IAt (fun j=>j<W.heap.size) W i p)(hb64:Val.all.allL B64 p.consts)(ea:Option Addr)(en ec:Nat)(l:List Ev)(E:XRd (fun j=>j<W.heap.size) W (.slice ea en ec) l)(he:∀e∈l,e.v.all B64):
  Calls Tryz.prog 6 #[.agg #[.slice i.ca i.cn i.cc,.slice i.ka i.kn i.kc,.slice i.na i.nn i.nc,.int .i64 i.pl],.slice ea en ec] W fun en w'=>en= .returned (.bool true)∧Below W.heap.size W w':=by
 have hen:en=l.length:=by obtain⟨a,c,h⟩:=E.slice;cases h;rfl
 have HG:=zhd G;have RU:=zhd (fun W' (K:Below W.heap.size W W')=>yfJ W' (G.below K));have SM:=zhd (fun W' (K:Below W.heap.size W W')=>ygj _ W' i p (H.below K) _ ea en ec l (E.below K));have HH:=zh5 H E hb64 he hen;clear G H E hb64 he hen;obtain⟨w0,hw0⟩:∃w0,w0=W.alloc (.cells #[.slice i.ca i.cn i.cc,.slice i.ka i.kn i.kc,.slice i.na i.nn i.nc,.int .i64 i.pl] 28):=⟨_,rfl⟩;have B0:=zba hw0;have X0:BoxI w0 W.heap.size i:=by rw[hw0];exact znb _ _
 have H0:=zh2 B0 X0;clear B0 X0;go_enter Tryz.func6,Tryz.ntmps6;go_wp2_with fail;rw[←hw0];clear hw0;refine(RU.o w0 H0.o.1).mono ?_;rintro e w1 ⟨rfl,hB1⟩;have B1:=H0.o.1.trans (hB1.mono H0.o.1.size);have X1:=H0.o.2.below hB1;obtain⟨q0,q1,q2,q3,ql⟩:=X1.all5;have H1:=zh2 B1 X1;clear hB1 B1 X1;go_wp2_with fail;refine(SM.o w1 H1.o.1).mono ?_;rintro e w2 ⟨r,rfl,H2⟩;have B2:=H1.o.1.trans (H2.o.2.mono H1.o.1.size);have X2:=H1.o.2.below H2.o.2;obtain⟨q0,q1,q2,q3,ql⟩:=X2.all5;have HB2:=zh2 B2 X2;clear B2 X2;cases r with
 |false=>
  go_wp2_with fail;go_ret;exact⟨rfl,HB2.o.1⟩
 |true=>
  have SF:=H2.o.1 rfl;have hwf:∀x∈p.consts,x.wf:=fun x hx=>ymU (Val.allL_iff.1 HH.o.2.2.1 x hx) (SF.consts x hx);have hewf:∀e∈l,e.v.wf:=fun e h=>ymU (HH.o.2.2.2.1 e h) (SF.evs e h);obtain⟨fa,at_,er,hck⟩:∃fa a e,ya1 p=(fa,a,e):=⟨_,_,_,rfl⟩;have HI2:=HH.o.1.below HB2.o.1;have RN:=zhd (yhn _ w2 i p HI2 hwf _ hck);have NN:=zhd (fun X (B:Below w2.heap.size w2 X)=>ygD _ X i p (HI2.below B) hwf _ hck);have HF:=zh4 SF hwf hewf hck;clear SF hwf hewf hck HI2 RU SM;go_wp2_with fail;refine RN.o.mono ?_;rintro e w3 (⟨hne,rfl,H3⟩|⟨hz,rb,b,mb,v,rfl,H3⟩)
  ·have n1:(er==0)=false:=by rw[zna];exact hne
   have n2:(er !=0)=true:=by unfold bne;rw[n1];rfl
   have X3:=HB2.o.2.below H3.o;have B3:=HB2.o.1.trans (H3.o.mono HB2.o.1.size);obtain⟨q0,q1,q2,q3,ql⟩:=X3.all5;have HB3:=zh2 B3 H3.o;clear X3 B3 H3 RN;go_wp2_with fail;refine(NN.o _ HB3.o.2).mono ?_;rintro e w4 (⟨_,rfl,H4⟩|⟨h,_⟩)
   ·have B4:=zhd (HB3.o.1.trans (H4.o.mono HB3.o.1.size))
    clear H4 NN hne;go_wp2_with fail;go_ret;exact⟨rfl,B4.o⟩
   ·exact absurd h hne
  ·subst hz
   obtain⟨K,P,hsp,S⟩:=ye5 HF.o.2.1 HF.o.2.2.2;have B3:=HB2.o.1.trans (H3.o.2.2.mono HB2.o.1.size);have X3:=HB2.o.2.below H3.o.2.2;have L3:LwR (yae p) fa w2.heap.size rb b mb v (rp0 (yae p)) w3:=⟨H3.o.1,H3.o.2.1,S,znq _⟩;obtain⟨q0,q1,q2,q3,ql⟩:=X3.all5;have HK:=zh3 K P hsp;have HW2:=zhd HB2.o.1.size;have HN:=zhd (show N≤w2.heap.size from znf HG.o.n HB2.o.1.size);have HL3:=zh3 L3 B3 H3.o.2.2;clear K P hsp S B3 X3 L3 H3 RN;go_wp2_with fail;refine(NN.o _ HL3.o.2.2).mono ?_;rintro e w4 (⟨h,_⟩|⟨_,b4,v4,rfl,H4⟩)
   ·exact absurd rfl h
   have HL4:=zh2 (HL3.o.1.ext H4.o.2.2) (HL3.o.2.1.trans (H4.o.2.2.mono HL3.o.2.1.size));clear NN H4 q0 q1 q2 q3 ql;go_wp2_with fail;go_loopg [45,9,10] en (fun gk v45 v9 v10 wr=>yoA (yae p) fa w2.heap.size rb b mb en W gk v45 v9 v10 wr)
   case atStart=>exact⟨0,v,rp0 (yae p),rfl,rfl,rfl,znq _,rfl,HL4.o.1,HL4.o.2,rfl,rfl,znc _⟩
   case round=>
    obtain⟨j,v,r,rfl,rfl,rfl,hj,hgk,L,BW,hre,hrs,hrv⟩:=hrel;by_cases hjn:j<en
    ·obtain⟨ev,hev⟩:=yad (l:=l) (k:=j) (by have:=HH.o.2.2.2.2;omega)
     obtain⟨g,off,vk,vn,vs,la,ln,lc,rfl,hFg,hg,dv,y0,y1,y2,y3,y4,y5,y6,y7,y8,y9,y10⟩:=yiD HH.o.2.1 hev;rw[←BW.cell (p:=⟨g,_,none⟩) hg]at y0 y1 y2 y3 y4 y5 y6 y7 y8 y9 y10;have hgl:g<wr.heap.size:=znj hg BW.size;have hjn':(j:Int)<en:=by omega
     have hen:=HF.o.1.len;have hel:=HH.o.2.2.2.2;have hwe:=HF.o.2.2.1 ev (zmg hev);have HWJ:=zhd (show wrap64 ((j:Int)+1)=(j:Int)+1∧wrap64 ((r.seen:Int)+1)=(r.seen:Int)+1 by constructor<;>unfold wrap64<;>omega);have HM:=zhd (show en - (j+1)<gk by omega);have HV:=zh5 dv hwe (show r.m.events+1≤30 by omega) (show r.seen+1≤4000000 by omega) hre;have HRS:=zh3 hrs hrv (show j≤20 by omega);have HL:=zh2 L BW;clear hgk hen hel hwe dv hre hrs hrv L BW hev hFg;obtain⟨e0,e1,e2,e3,e4,e5,e6,ex⟩:=ev;dsimp only at y0 y1 y2 y3 y4 y5 y6;go_upto_region 15 with(fail);refine yaa ?_;intro w6 hw6;have B6:=zba hw6;have hb6:=zha hw6;have BW6:=HL.o.2.trans (B6.mono HL.o.2.size);clear y0 y1 y2 y3 y4 y5 y6 y7 y8 y9 y10 hgl hg hw6;obtain⟨x0,x1,x2,x3,x4,x5,x6,x7,x8,x9,x10,xl,_⟩:=yaw hb6;obtain⟨ck,hck⟩:∃ck,yaj ⟨e0,e1,e2,e3,e4,e5,e6,ex⟩=ck:=⟨_,rfl⟩;have RC:=zhd (yo1 e0 e1 e2 e3 e4 e5 e6 ex vk vn vs la ln lc (fun q=>q<W.heap.size) (HV.o.1.keep (S:=fun _=>False) (zkb BW6) (fun _ _ f=>f)) HV.o.2.1 ck hck);have HCK:=zhd hck;have H6:=zh2 B6 hb6;clear B6 hb6 BW6 hck;go_wp2_with fail;refine RC.o.mono ?_;rintro e w7 ⟨rfl,hB7⟩;have B7:=H6.o.1.trans (hB7.mono H6.o.1.size)
     have H7:=zh4 (HL.o.1.ext B7) (HL.o.2.trans (B7.mono HL.o.2.size)) ((hB7.block wr.heap.size xl).trans H6.o.2) (show¬RO rb b mb v wr.heap.size from fun e=>by have:=HL.o.1.rx.lt e;omega);clear x0 x1 x2 x3 x4 x5 x6 x7 x8 x9 x10 xl RC hB7 B7;obtain⟨x0,x1,x2,x3,x4,x5,x6,x7,x8,x9,x10,xl,_⟩:=yaw H7.o.2.2.1;by_cases hck0:ck=0
     ·subst hck0
      by_cases hid:e0=(r.seen:Int)+1
      ·subst hid
       obtain⟨cl,hcl⟩:∃cl,r.closed=cl:=⟨_,rfl⟩;rw[hcl];have hws:=HWJ.o.2;cases cl with
       |true=>
        have HWQ:=zhd (show ybh r ⟨(r.seen:Int)+1,e1,e2,e3,e4,e5,e6,ex⟩=181 by unfold ybh;rw[if_neg (by rw[HCK.o];decide),if_neg (by simp),if_pos hcl]);clear hcl;obtain⟨r1,hr1⟩:∃r1,yaK (yae p) r [⟨(r.seen:Int)+1,e1,e2,e3,e4,e5,e6,ex⟩]=r1:=⟨_,rfl⟩;have hre:r1.err=181∧r1.m=r.m∧r1.seen=r.seen:=by
         have h:=ydR (p:=yae p) (e:=⟨(r.seen:Int)+1,e1,e2,e3,e4,e5,e6,ex⟩) HV.o.2.2.2.2 HWQ.o (by decide);rw[←hr1,h];exact⟨rfl,rfl,rfl⟩
        have HR1:=zhd hr1;have HE:=zh4 hre.1 (show r1.err≠0 by rw[hre.1];decide) (show r1.m.events+1≤30 by rw[hre.2.1];exact HV.o.2.2.1) (show r1.seen+1≤4000000 by rw[hre.2.2];exact HV.o.2.2.2.1);clear hr1 hre;have FD:=zhd (H7.o.1.feed1 HG.o HN.o HK.o.1 HK.o.2.1 HK.o.2.2 H7.o.2.1 HW2.o ((r.seen:Int)+1) e1 (e2) e3 e4 e5 e6 ex vk vn vs la ln lc HV.o.1 HV.o.2.1 HV.o.2.2.1 HV.o.2.2.2.1 r1 HR1.o);obtain⟨x0,x1,x2,x3,x4,x5,x6,x7,x8,x9,x10,xl,_⟩:=yaw H7.o.2.2.1;go_wp2_with fail;refine FD.o.mono ?_;rintro e w9 ⟨v9,rfl,H9⟩;have hb9:=(H9.o.2.2 wr.heap.size xl H7.o.2.2.2).2.trans H7.o.2.2.1;have hn9:=(H9.o.2.2 wr.heap.size xl H7.o.2.2.2).1;clear x0 x1 x2 x3 x4 x5 x6 x7 x8 x9 x10 xl FD;rw[HE.o.1];have H9B:=zh3 H9.o.1 H9.o.2.1 hb9;clear hb9 hn9;have F1:=zhd (H9B.o.1.feed1 HG.o HN.o HK.o.1 HK.o.2.1 HK.o.2.2 H9B.o.2.1 HW2.o ((r.seen:Int)+1) e1 (e2) e3 e4 e5 e6 ex vk vn vs la ln lc HV.o.1 HV.o.2.1 HE.o.2.2.1 HE.o.2.2.2 r1 (ybF HE.o.2.1 _));obtain⟨x0,x1,x2,x3,x4,x5,x6,x7,x8,x9,x10,xl,_⟩:=yaw H9B.o.2.2;go_wp2_with fail;refine F1.o.mono ?_;rintro e w10 ⟨v10,rfl,H10⟩;rw[HE.o.1]
        have F0:=zhd (H10.o.1.feed0 HG.o HN.o HK.o.1 HK.o.2.1 HK.o.2.2 H10.o.2.1 HW2.o (by have:=HE.o.2.2.1;omega) (by have:=HE.o.2.2.2;omega));clear x0 x1 x2 x3 x4 x5 x6 x7 x8 x9 x10 xl F1;go_wp2_with fail;refine F0.o.mono ?_;rintro e w11 ⟨v11,rfl,H11⟩;rw[HE.o.1];have PD:=zhd (H11.o.1.pending (by have:=HE.o.2.2.1;omega));clear F0;go_wp2_with fail;refine PD.o.mono ?_;rintro e w12 ⟨q12,rfl,H12⟩;obtain⟨a12,c12,rfl⟩:∃a c,q12= .slice a 0 c:=by
         obtain⟨a,c,h⟩:=H12.o.1.slice;rw[zmd,show ybD r1=[] by unfold ybD;rw[show(r1.err !=0)=true by simpa using HE.o.2.1];rfl]at h;exact⟨a,c,h⟩
        have H12B:=zhd (H11.o.2.1.trans (H12.o.2.2.mono H11.o.2.1.size));clear PD H12;go_wp2_with fail;go_ret;exact⟨rfl,H12B.o⟩
       |false=>
        have hcl0:¬r.closed=true:=by rw[hcl];decide
        by_cases hs0:r.seen=0
        ·have n3:((r.seen:Int)==0)=true:=by rw[beq_iff_eq];omega
         by_cases hk:e2=1
         ·subst hk
          have HWQ:=zhd (show ybh r ⟨(r.seen:Int)+1,e1,1,e3,e4,e5,e6,ex⟩=0 by unfold ybh;rw[if_neg (by rw[HCK.o];decide),if_neg (by simp),if_neg hcl0,if_neg (by simp[hs0])]);clear hcl hcl0 hs0;obtain⟨r1,hr1⟩:∃r1,yaK (yae p) r [⟨(r.seen:Int)+1,e1,1,e3,e4,e5,e6,ex⟩]=r1:=⟨_,rfl⟩;have hr2:r1={(ybo (yae p) r ⟨(r.seen:Int)+1,e1,1,e3,e4,e5,e6,ex⟩).2 with err:=(ybo (yae p) r ⟨(r.seen:Int)+1,e1,1,e3,e4,e5,e6,ex⟩).1}:=by rw[←hr1,ycJ HV.o.2.2.2.2];rfl
          have hst:=yhq HK.o.1 HK.o.2.1 HK.o.2.2 H7.o.1.st (e:=⟨(r.seen:Int)+1,e1,1,e3,e4,e5,e6,ex⟩) HV.o.2.1 (by have:(ycj [(⟨(r.seen:Int)+1,e1,1,e3,e4,e5,e6,ex⟩:Ev)]).length≤1:=List.length_filter_le _ _;have:=HV.o.2.2.1;omega) H7.o.1.nx;have hol:(ycj [(⟨(r.seen:Int)+1,e1,1,e3,e4,e5,e6,ex⟩:Ev)]).length≤1:=List.length_filter_le _ _;have HR1:=zhd hr1;have hgood:=yhr (p:=yae p) HWQ.o;have HE1:=zh2 (show r1.m.events≤r.m.events+1 by rw[hr2];exact znf hst.2.1 (by omega)) (show r1.seen≤r.seen+1 by rw[hr2];exact hst.2.2.2);clear hr1 hst hol;have FD:=zhd (H7.o.1.feed1 HG.o HN.o HK.o.1 HK.o.2.1 HK.o.2.2 H7.o.2.1 HW2.o ((r.seen:Int)+1) e1 (1) e3 e4 e5 e6 ex vk vn vs la ln lc HV.o.1 HV.o.2.1 HV.o.2.2.1 HV.o.2.2.2.1 r1 HR1.o);obtain⟨x0,x1,x2,x3,x4,x5,x6,x7,x8,x9,x10,xl,_⟩:=yaw H7.o.2.2.1;go_wp2_with fail;refine FD.o.mono ?_;rintro e w9 ⟨v9,rfl,H9⟩;have hb9:=(H9.o.2.2 wr.heap.size xl H7.o.2.2.2).2.trans H7.o.2.2.1;have hn9:=(H9.o.2.2 wr.heap.size xl H7.o.2.2.2).1;clear x0 x1 x2 x3 x4 x5 x6 x7 x8 x9 x10 xl FD;replace hgood:=hgood.resolve_right (fun h=>absurd h.2 (by decide));obtain⟨g1,g2,g3⟩:=hgood
          have h1:r1.err=0:=by rw[hr2];exact g1
          have h2:r1.seen=r.seen+1:=by rw[hr2];exact g2
          have h3:r1.closed=ybq 1:=by rw[hr2];exact g3
          rw[h1];obtain⟨cb,hcb⟩:∃cb,decide (16≤(1:Int)∧1≤21)=cb:=⟨_,rfl⟩;have CS:=zhd (yba ((r.seen:Int)+1) e1 1 e3 e4 e5 e6 vk vn vs la ln lc w9 cb hcb);have HQ:=zh3 h1 h2 (show r1.closed=cb by rw[h3,←hcb];rfl);have SE:=zhd (fun X (B:Below w9.heap.size w9 X)=>(show Calls Tryz.prog 36 #[.pointer (some ⟨rb,0,none⟩)] X (fun e w'=>e= .returned (.int .i64 ((r.seen:Int)+1))∧Below X.heap.size X w')from by have h:=ydG rb b mb v9 _ _ X (H9.o.1.rx.ext B);rw[HQ.o.2.1]at h;simpa using h));have CD:=zhd (fun X (B:Below w9.heap.size w9 X)=>(show Calls Tryz.prog 17 #[.pointer (some ⟨rb,0,none⟩)] X (fun e w'=>e= .returned (.bool cb)∧Below X.heap.size X w')from by have h:=ycs rb b mb v9 _ _ X (H9.o.1.rx.ext B);rw[HQ.o.2.2]at h;exact h));obtain⟨x0,x1,x2,x3,x4,x5,x6,x7,x8,x9,x10,xl,_⟩:=yaw hb9;clear g1 g2 g3 h1 h2 h3 hr2 hcb hn9 hb9;go_wp2_with fail;refine CS.o.mono ?_;rintro e w10 ⟨rfl,hB10⟩;have HB10:=zhd hB10;clear hB10 x0 x1 x2 x3 x4 x5 x6 x7 x8 x9 x10 xl CS;go_wp2_with fail;refine(SE.o _ HB10.o).mono ?_;rintro e w11 ⟨rfl,hB11⟩;have HB11:=zhd (HB10.o.trans (hB11.mono HB10.o.size));clear hB11 SE;go_wp2_with fail;refine(CD.o _ HB11.o).mono ?_;rintro e w12 ⟨rfl,hB12⟩
          have HB12:=zhd (HB11.o.trans (hB12.mono HB11.o.size));clear hB12 CD;go_wp2_with fail;go_roundg (en - (j+1))
          case measure=>exact HM.o
          case rel=>exact⟨j+1,v9,r1,by first|(simp;done)|(simp;exact HWJ.o.1),by rw[HQ.o.2.2],by rw[HQ.o.2.1];simp,hjn,rfl,H9.o.1.ext HB12.o,H9.o.2.1.trans (HB12.o.mono H9.o.2.1.size),HQ.o.1,by rw[HQ.o.2.1,HRS.o.1],by have h1:=HE1.o.1;have h2:=HRS.o.2.1;have h3:=HRS.o.2.2;omega⟩
         ·have n1:(e2==1)=false:=by rw[zna];exact hk
          have HWQ:=zhd (show ybh r ⟨(r.seen:Int)+1,e1,e2,e3,e4,e5,e6,ex⟩=7 by unfold ybh;rw[if_neg (by rw[HCK.o];decide),if_neg (by simp),if_neg hcl0,if_pos (.inl ⟨hs0,hk⟩)]);clear hcl hcl0 hs0 hk;obtain⟨r1,hr1⟩:∃r1,yaK (yae p) r [⟨(r.seen:Int)+1,e1,e2,e3,e4,e5,e6,ex⟩]=r1:=⟨_,rfl⟩;have hre:r1.err=7∧r1.m=r.m∧r1.seen=r.seen:=by
           have h:=ydR (p:=yae p) (e:=⟨(r.seen:Int)+1,e1,e2,e3,e4,e5,e6,ex⟩) HV.o.2.2.2.2 HWQ.o (by decide);rw[←hr1,h];exact⟨rfl,rfl,rfl⟩
          have HR1:=zhd hr1;have HE:=zh4 hre.1 (show r1.err≠0 by rw[hre.1];decide) (show r1.m.events+1≤30 by rw[hre.2.1];exact HV.o.2.2.1) (show r1.seen+1≤4000000 by rw[hre.2.2];exact HV.o.2.2.2.1);clear hr1 hre;have FD:=zhd (H7.o.1.feed1 HG.o HN.o HK.o.1 HK.o.2.1 HK.o.2.2 H7.o.2.1 HW2.o ((r.seen:Int)+1) e1 (e2) e3 e4 e5 e6 ex vk vn vs la ln lc HV.o.1 HV.o.2.1 HV.o.2.2.1 HV.o.2.2.2.1 r1 HR1.o);obtain⟨x0,x1,x2,x3,x4,x5,x6,x7,x8,x9,x10,xl,_⟩:=yaw H7.o.2.2.1;go_wp2_with fail;refine FD.o.mono ?_;rintro e w9 ⟨v9,rfl,H9⟩;have hb9:=(H9.o.2.2 wr.heap.size xl H7.o.2.2.2).2.trans H7.o.2.2.1;have hn9:=(H9.o.2.2 wr.heap.size xl H7.o.2.2.2).1;clear x0 x1 x2 x3 x4 x5 x6 x7 x8 x9 x10 xl FD;rw[HE.o.1];have H9B:=zh3 H9.o.1 H9.o.2.1 hb9;clear hb9 hn9;have F1:=zhd (H9B.o.1.feed1 HG.o HN.o HK.o.1 HK.o.2.1 HK.o.2.2 H9B.o.2.1 HW2.o ((r.seen:Int)+1) e1 (e2) e3 e4 e5 e6 ex vk vn vs la ln lc HV.o.1 HV.o.2.1 HE.o.2.2.1 HE.o.2.2.2 r1 (ybF HE.o.2.1 _));obtain⟨x0,x1,x2,x3,x4,x5,x6,x7,x8,x9,x10,xl,_⟩:=yaw H9B.o.2.2;go_wp2_with fail;refine F1.o.mono ?_;rintro e w10 ⟨v10,rfl,H10⟩;rw[HE.o.1]
          have F0:=zhd (H10.o.1.feed0 HG.o HN.o HK.o.1 HK.o.2.1 HK.o.2.2 H10.o.2.1 HW2.o (by have:=HE.o.2.2.1;omega) (by have:=HE.o.2.2.2;omega));clear x0 x1 x2 x3 x4 x5 x6 x7 x8 x9 x10 xl F1;go_wp2_with fail;refine F0.o.mono ?_;rintro e w11 ⟨v11,rfl,H11⟩;rw[HE.o.1];have PD:=zhd (H11.o.1.pending (by have:=HE.o.2.2.1;omega));clear F0;go_wp2_with fail;refine PD.o.mono ?_;rintro e w12 ⟨q12,rfl,H12⟩;obtain⟨a12,c12,rfl⟩:∃a c,q12= .slice a 0 c:=by
           obtain⟨a,c,h⟩:=H12.o.1.slice;rw[zmd,show ybD r1=[] by unfold ybD;rw[show(r1.err !=0)=true by simpa using HE.o.2.1];rfl]at h;exact⟨a,c,h⟩
          have H12B:=zhd (H11.o.2.1.trans (H12.o.2.2.mono H11.o.2.1.size));clear PD H12;go_wp2_with fail;go_ret;exact⟨rfl,H12B.o⟩
        ·have n3:((r.seen:Int)==0)=false:=by rw[zna];omega
         by_cases hk:e2=1
         ·subst hk
          have HWQ:=zhd (show ybh r ⟨(r.seen:Int)+1,e1,1,e3,e4,e5,e6,ex⟩=7 by unfold ybh;rw[if_neg (by rw[HCK.o];decide),if_neg (by simp),if_neg hcl0,if_pos (.inr ⟨hs0,rfl⟩)]);clear hcl hcl0 hs0;obtain⟨r1,hr1⟩:∃r1,yaK (yae p) r [⟨(r.seen:Int)+1,e1,1,e3,e4,e5,e6,ex⟩]=r1:=⟨_,rfl⟩;have hre:r1.err=7∧r1.m=r.m∧r1.seen=r.seen:=by
           have h:=ydR (p:=yae p) (e:=⟨(r.seen:Int)+1,e1,1,e3,e4,e5,e6,ex⟩) HV.o.2.2.2.2 HWQ.o (by decide);rw[←hr1,h];exact⟨rfl,rfl,rfl⟩
          have HR1:=zhd hr1;have HE:=zh4 hre.1 (show r1.err≠0 by rw[hre.1];decide) (show r1.m.events+1≤30 by rw[hre.2.1];exact HV.o.2.2.1) (show r1.seen+1≤4000000 by rw[hre.2.2];exact HV.o.2.2.2.1);clear hr1 hre;have FD:=zhd (H7.o.1.feed1 HG.o HN.o HK.o.1 HK.o.2.1 HK.o.2.2 H7.o.2.1 HW2.o ((r.seen:Int)+1) e1 (1) e3 e4 e5 e6 ex vk vn vs la ln lc HV.o.1 HV.o.2.1 HV.o.2.2.1 HV.o.2.2.2.1 r1 HR1.o);obtain⟨x0,x1,x2,x3,x4,x5,x6,x7,x8,x9,x10,xl,_⟩:=yaw H7.o.2.2.1;go_wp2_with fail;refine FD.o.mono ?_;rintro e w9 ⟨v9,rfl,H9⟩;have hb9:=(H9.o.2.2 wr.heap.size xl H7.o.2.2.2).2.trans H7.o.2.2.1;have hn9:=(H9.o.2.2 wr.heap.size xl H7.o.2.2.2).1;clear x0 x1 x2 x3 x4 x5 x6 x7 x8 x9 x10 xl FD;rw[HE.o.1];have H9B:=zh3 H9.o.1 H9.o.2.1 hb9;clear hb9 hn9;have F1:=zhd (H9B.o.1.feed1 HG.o HN.o HK.o.1 HK.o.2.1 HK.o.2.2 H9B.o.2.1 HW2.o ((r.seen:Int)+1) e1 (1) e3 e4 e5 e6 ex vk vn vs la ln lc HV.o.1 HV.o.2.1 HE.o.2.2.1 HE.o.2.2.2 r1 (ybF HE.o.2.1 _));obtain⟨x0,x1,x2,x3,x4,x5,x6,x7,x8,x9,x10,xl,_⟩:=yaw H9B.o.2.2;go_wp2_with fail;refine F1.o.mono ?_;rintro e w10 ⟨v10,rfl,H10⟩;rw[HE.o.1]
          have F0:=zhd (H10.o.1.feed0 HG.o HN.o HK.o.1 HK.o.2.1 HK.o.2.2 H10.o.2.1 HW2.o (by have:=HE.o.2.2.1;omega) (by have:=HE.o.2.2.2;omega));clear x0 x1 x2 x3 x4 x5 x6 x7 x8 x9 x10 xl F1;go_wp2_with fail;refine F0.o.mono ?_;rintro e w11 ⟨v11,rfl,H11⟩;rw[HE.o.1];have PD:=zhd (H11.o.1.pending (by have:=HE.o.2.2.1;omega));clear F0;go_wp2_with fail;refine PD.o.mono ?_;rintro e w12 ⟨q12,rfl,H12⟩;obtain⟨a12,c12,rfl⟩:∃a c,q12= .slice a 0 c:=by
           obtain⟨a,c,h⟩:=H12.o.1.slice;rw[zmd,show ybD r1=[] by unfold ybD;rw[show(r1.err !=0)=true by simpa using HE.o.2.1];rfl]at h;exact⟨a,c,h⟩
          have H12B:=zhd (H11.o.2.1.trans (H12.o.2.2.mono H11.o.2.1.size));clear PD H12;go_wp2_with fail;go_ret;exact⟨rfl,H12B.o⟩
         ·have n1:(e2==1)=false:=by rw[zna];exact hk
          have HWQ:=zhd (show ybh r ⟨(r.seen:Int)+1,e1,e2,e3,e4,e5,e6,ex⟩=0 by unfold ybh;rw[if_neg (by rw[HCK.o];decide),if_neg (by simp),if_neg hcl0,if_neg (by simp[hs0,hk])]);clear hcl hcl0 hs0 hk;obtain⟨r1,hr1⟩:∃r1,yaK (yae p) r [⟨(r.seen:Int)+1,e1,e2,e3,e4,e5,e6,ex⟩]=r1:=⟨_,rfl⟩;have hr2:r1={(ybo (yae p) r ⟨(r.seen:Int)+1,e1,e2,e3,e4,e5,e6,ex⟩).2 with err:=(ybo (yae p) r ⟨(r.seen:Int)+1,e1,e2,e3,e4,e5,e6,ex⟩).1}:=by rw[←hr1,ycJ HV.o.2.2.2.2];rfl
          have hst:=yhq HK.o.1 HK.o.2.1 HK.o.2.2 H7.o.1.st (e:=⟨(r.seen:Int)+1,e1,e2,e3,e4,e5,e6,ex⟩) HV.o.2.1 (by have:(ycj [(⟨(r.seen:Int)+1,e1,e2,e3,e4,e5,e6,ex⟩:Ev)]).length≤1:=List.length_filter_le _ _;have:=HV.o.2.2.1;omega) H7.o.1.nx;have hol:(ycj [(⟨(r.seen:Int)+1,e1,e2,e3,e4,e5,e6,ex⟩:Ev)]).length≤1:=List.length_filter_le _ _;have HR1:=zhd hr1;have hgood:=yhr (p:=yae p) HWQ.o;have HE1:=zh2 (show r1.m.events≤r.m.events+1 by rw[hr2];exact znf hst.2.1 (by omega)) (show r1.seen≤r.seen+1 by rw[hr2];exact hst.2.2.2);clear hr1 hst hol;have FD:=zhd (H7.o.1.feed1 HG.o HN.o HK.o.1 HK.o.2.1 HK.o.2.2 H7.o.2.1 HW2.o ((r.seen:Int)+1) e1 (e2) e3 e4 e5 e6 ex vk vn vs la ln lc HV.o.1 HV.o.2.1 HV.o.2.2.1 HV.o.2.2.2.1 r1 HR1.o);obtain⟨x0,x1,x2,x3,x4,x5,x6,x7,x8,x9,x10,xl,_⟩:=yaw H7.o.2.2.1;go_wp2_with fail;refine FD.o.mono ?_;rintro e w9 ⟨v9,rfl,H9⟩;have hb9:=(H9.o.2.2 wr.heap.size xl H7.o.2.2.2).2.trans H7.o.2.2.1;have hn9:=(H9.o.2.2 wr.heap.size xl H7.o.2.2.2).1;clear x0 x1 x2 x3 x4 x5 x6 x7 x8 x9 x10 xl FD;rcases hgood with hgood|hgood
          ·
           obtain⟨g1,g2,g3⟩:=hgood;have h1:r1.err=0:=by rw[hr2];exact g1
           have h2:r1.seen=r.seen+1:=by rw[hr2];exact g2
           have h3:r1.closed=ybq e2:=by rw[hr2];exact g3
           rw[h1];obtain⟨cb,hcb⟩:∃cb,decide (16≤(e2:Int)∧e2≤21)=cb:=⟨_,rfl⟩;have CS:=zhd (yba ((r.seen:Int)+1) e1 e2 e3 e4 e5 e6 vk vn vs la ln lc w9 cb hcb);have HQ:=zh3 h1 h2 (show r1.closed=cb by rw[h3,←hcb];rfl);have SE:=zhd (fun X (B:Below w9.heap.size w9 X)=>(show Calls Tryz.prog 36 #[.pointer (some ⟨rb,0,none⟩)] X (fun e w'=>e= .returned (.int .i64 ((r.seen:Int)+1))∧Below X.heap.size X w')from by have h:=ydG rb b mb v9 _ _ X (H9.o.1.rx.ext B);rw[HQ.o.2.1]at h;simpa using h));have CD:=zhd (fun X (B:Below w9.heap.size w9 X)=>(show Calls Tryz.prog 17 #[.pointer (some ⟨rb,0,none⟩)] X (fun e w'=>e= .returned (.bool cb)∧Below X.heap.size X w')from by have h:=ycs rb b mb v9 _ _ X (H9.o.1.rx.ext B);rw[HQ.o.2.2]at h;exact h));obtain⟨x0,x1,x2,x3,x4,x5,x6,x7,x8,x9,x10,xl,_⟩:=yaw hb9;clear g1 g2 g3 h1 h2 h3 hr2 hcb hn9 hb9;go_wp2_with fail;refine CS.o.mono ?_;rintro e w10 ⟨rfl,hB10⟩;have HB10:=zhd hB10;clear hB10 x0 x1 x2 x3 x4 x5 x6 x7 x8 x9 x10 xl CS;go_wp2_with fail;refine(SE.o _ HB10.o).mono ?_;rintro e w11 ⟨rfl,hB11⟩;have HB11:=zhd (HB10.o.trans (hB11.mono HB10.o.size));clear hB11 SE;go_wp2_with fail;refine(CD.o _ HB11.o).mono ?_;rintro e w12 ⟨rfl,hB12⟩
           have HB12:=zhd (HB11.o.trans (hB12.mono HB11.o.size));clear hB12 CD;go_wp2_with fail;go_roundg (en - (j+1))
           case measure=>exact HM.o
           case rel=>exact⟨j+1,v9,r1,by first|(simp;done)|(simp;exact HWJ.o.1),by rw[HQ.o.2.2],by rw[HQ.o.2.1];simp,hjn,rfl,H9.o.1.ext HB12.o,H9.o.2.1.trans (HB12.o.mono H9.o.2.1.size),HQ.o.1,by rw[HQ.o.2.1,HRS.o.1],by have h1:=HE1.o.1;have h2:=HRS.o.2.1;have h3:=HRS.o.2.2;omega⟩
          ·
           obtain⟨g1,g2⟩:=hgood;have h1:r1.err=150:=by rw[hr2];exact g1
           rw[h1];have HE:=zh4 h1 (show r1.err≠0 by rw[h1];decide) (show r1.m.events+1≤30 by have h1:=HE1.o.1;have h2:=HRS.o.2.1;have h3:=HRS.o.2.2;omega) (show r1.seen+1≤4000000 by have h1:=HE1.o.2;have h2:=HRS.o.1;have h3:=HRS.o.2.2;omega);have CM:=zhd (ycN ((r.seen:Int)+1) e1 e2 e3 e4 e5 e6 vk vn vs la ln lc w9 true g2);have H9B:=zh3 H9.o.1 H9.o.2.1 hb9;obtain⟨x0,x1,x2,x3,x4,x5,x6,x7,x8,x9,x10,xl,_⟩:=yaw hb9;clear g1 g2 h1 hr2 hn9 hb9;go_wp2_with fail;refine CM.o.mono ?_;rintro e w13 ⟨rfl,hB13⟩;have H13:=zh3 (H9B.o.1.ext hB13) (H9B.o.2.1.trans (hB13.mono H9B.o.2.1.size)) ((hB13.block wr.heap.size xl).trans H9B.o.2.2);clear hB13 x0 x1 x2 x3 x4 x5 x6 x7 x8 x9 x10 xl CM;have F1:=zhd (H13.o.1.feed1 HG.o HN.o HK.o.1 HK.o.2.1 HK.o.2.2 H13.o.2.1 HW2.o ((r.seen:Int)+1) e1 (e2) e3 e4 e5 e6 ex vk vn vs la ln lc HV.o.1 HV.o.2.1 HE.o.2.2.1 HE.o.2.2.2 r1 (ybF HE.o.2.1 _));obtain⟨x0,x1,x2,x3,x4,x5,x6,x7,x8,x9,x10,xl,_⟩:=yaw H13.o.2.2;go_wp2_with fail;refine F1.o.mono ?_;rintro e w10 ⟨v10,rfl,H10⟩;rw[HE.o.1]
           have F0:=zhd (H10.o.1.feed0 HG.o HN.o HK.o.1 HK.o.2.1 HK.o.2.2 H10.o.2.1 HW2.o (by have:=HE.o.2.2.1;omega) (by have:=HE.o.2.2.2;omega));clear x0 x1 x2 x3 x4 x5 x6 x7 x8 x9 x10 xl F1;go_wp2_with fail;refine F0.o.mono ?_;rintro e w11 ⟨v11,rfl,H11⟩;rw[HE.o.1];have PD:=zhd (H11.o.1.pending (by have:=HE.o.2.2.1;omega));clear F0;go_wp2_with fail;refine PD.o.mono ?_;rintro e w12 ⟨q12,rfl,H12⟩;obtain⟨a12,c12,rfl⟩:∃a c,q12= .slice a 0 c:=by
            obtain⟨a,c,h⟩:=H12.o.1.slice;rw[zmd,show ybD r1=[] by unfold ybD;rw[show(r1.err !=0)=true by simpa using HE.o.2.1];rfl]at h;exact⟨a,c,h⟩
           have H12B:=zhd (H11.o.2.1.trans (H12.o.2.2.mono H11.o.2.1.size));clear PD H12;go_wp2_with fail;go_ret;exact⟨rfl,H12B.o⟩
      ·have n1:(e0==(r.seen:Int)+1)=false:=by rw[zna];exact hid
       have n2:(e0 !=(r.seen:Int)+1)=true:=by unfold bne;rw[n1];rfl
       have hws:=HWJ.o.2;have HWQ:=zhd (show ybh r ⟨e0,e1,e2,e3,e4,e5,e6,ex⟩=180 by unfold ybh;rw[if_neg (by rw[HCK.o];decide),if_pos hid]);clear hid;obtain⟨r1,hr1⟩:∃r1,yaK (yae p) r [⟨e0,e1,e2,e3,e4,e5,e6,ex⟩]=r1:=⟨_,rfl⟩;have hre:r1.err=180∧r1.m=r.m∧r1.seen=r.seen:=by
        have h:=ydR (p:=yae p) (e:=⟨e0,e1,e2,e3,e4,e5,e6,ex⟩) HV.o.2.2.2.2 HWQ.o (by decide);rw[←hr1,h];exact⟨rfl,rfl,rfl⟩
       have HR1:=zhd hr1;have HE:=zh4 hre.1 (show r1.err≠0 by rw[hre.1];decide) (show r1.m.events+1≤30 by rw[hre.2.1];exact HV.o.2.2.1) (show r1.seen+1≤4000000 by rw[hre.2.2];exact HV.o.2.2.2.1);clear hr1 hre;have FD:=zhd (H7.o.1.feed1 HG.o HN.o HK.o.1 HK.o.2.1 HK.o.2.2 H7.o.2.1 HW2.o (e0) e1 (e2) e3 e4 e5 e6 ex vk vn vs la ln lc HV.o.1 HV.o.2.1 HV.o.2.2.1 HV.o.2.2.2.1 r1 HR1.o);obtain⟨x0,x1,x2,x3,x4,x5,x6,x7,x8,x9,x10,xl,_⟩:=yaw H7.o.2.2.1;go_wp2_with fail;refine FD.o.mono ?_;rintro e w9 ⟨v9,rfl,H9⟩;have hb9:=(H9.o.2.2 wr.heap.size xl H7.o.2.2.2).2.trans H7.o.2.2.1;have hn9:=(H9.o.2.2 wr.heap.size xl H7.o.2.2.2).1;clear x0 x1 x2 x3 x4 x5 x6 x7 x8 x9 x10 xl FD;rw[HE.o.1];have H9B:=zh3 H9.o.1 H9.o.2.1 hb9;clear hb9 hn9;have F1:=zhd (H9B.o.1.feed1 HG.o HN.o HK.o.1 HK.o.2.1 HK.o.2.2 H9B.o.2.1 HW2.o (e0) e1 (e2) e3 e4 e5 e6 ex vk vn vs la ln lc HV.o.1 HV.o.2.1 HE.o.2.2.1 HE.o.2.2.2 r1 (ybF HE.o.2.1 _));obtain⟨x0,x1,x2,x3,x4,x5,x6,x7,x8,x9,x10,xl,_⟩:=yaw H9B.o.2.2;go_wp2_with fail;refine F1.o.mono ?_;rintro e w10 ⟨v10,rfl,H10⟩;rw[HE.o.1]
       have F0:=zhd (H10.o.1.feed0 HG.o HN.o HK.o.1 HK.o.2.1 HK.o.2.2 H10.o.2.1 HW2.o (by have:=HE.o.2.2.1;omega) (by have:=HE.o.2.2.2;omega));clear x0 x1 x2 x3 x4 x5 x6 x7 x8 x9 x10 xl F1;go_wp2_with fail;refine F0.o.mono ?_;rintro e w11 ⟨v11,rfl,H11⟩;rw[HE.o.1];have PD:=zhd (H11.o.1.pending (by have:=HE.o.2.2.1;omega));clear F0;go_wp2_with fail;refine PD.o.mono ?_;rintro e w12 ⟨q12,rfl,H12⟩;obtain⟨a12,c12,rfl⟩:∃a c,q12= .slice a 0 c:=by
        obtain⟨a,c,h⟩:=H12.o.1.slice;rw[zmd,show ybD r1=[] by unfold ybD;rw[show(r1.err !=0)=true by simpa using HE.o.2.1];rfl]at h;exact⟨a,c,h⟩
       have H12B:=zhd (H11.o.2.1.trans (H12.o.2.2.mono H11.o.2.1.size));clear PD H12;go_wp2_with fail;go_ret;exact⟨rfl,H12B.o⟩
     ·have n1:(ck==0)=false:=by rw[zna];exact hck0
      have n2:(ck !=0)=true:=by unfold bne;rw[n1];rfl
      have HWQ:=zhd (show ybh r ⟨e0,e1,e2,e3,e4,e5,e6,ex⟩=9 by unfold ybh;rw[if_pos (by rw[HCK.o];exact hck0)]);clear hck0;obtain⟨r1,hr1⟩:∃r1,yaK (yae p) r [⟨e0,e1,e2,e3,e4,e5,e6,ex⟩]=r1:=⟨_,rfl⟩;have hre:r1.err=9∧r1.m=r.m∧r1.seen=r.seen:=by
       have h:=ydR (p:=yae p) (e:=⟨e0,e1,e2,e3,e4,e5,e6,ex⟩) HV.o.2.2.2.2 HWQ.o (by decide);rw[←hr1,h];exact⟨rfl,rfl,rfl⟩
      have HR1:=zhd hr1;have HE:=zh4 hre.1 (show r1.err≠0 by rw[hre.1];decide) (show r1.m.events+1≤30 by rw[hre.2.1];exact HV.o.2.2.1) (show r1.seen+1≤4000000 by rw[hre.2.2];exact HV.o.2.2.2.1);clear hr1 hre;have FD:=zhd (H7.o.1.feed1 HG.o HN.o HK.o.1 HK.o.2.1 HK.o.2.2 H7.o.2.1 HW2.o (e0) e1 (e2) e3 e4 e5 e6 ex vk vn vs la ln lc HV.o.1 HV.o.2.1 HV.o.2.2.1 HV.o.2.2.2.1 r1 HR1.o);obtain⟨x0,x1,x2,x3,x4,x5,x6,x7,x8,x9,x10,xl,_⟩:=yaw H7.o.2.2.1;go_wp2_with fail;refine FD.o.mono ?_;rintro e w9 ⟨v9,rfl,H9⟩;have hb9:=(H9.o.2.2 wr.heap.size xl H7.o.2.2.2).2.trans H7.o.2.2.1;have hn9:=(H9.o.2.2 wr.heap.size xl H7.o.2.2.2).1;clear x0 x1 x2 x3 x4 x5 x6 x7 x8 x9 x10 xl FD;rw[HE.o.1];have H9B:=zh3 H9.o.1 H9.o.2.1 hb9;clear hb9 hn9;have F1:=zhd (H9B.o.1.feed1 HG.o HN.o HK.o.1 HK.o.2.1 HK.o.2.2 H9B.o.2.1 HW2.o (e0) e1 (e2) e3 e4 e5 e6 ex vk vn vs la ln lc HV.o.1 HV.o.2.1 HE.o.2.2.1 HE.o.2.2.2 r1 (ybF HE.o.2.1 _));obtain⟨x0,x1,x2,x3,x4,x5,x6,x7,x8,x9,x10,xl,_⟩:=yaw H9B.o.2.2;go_wp2_with fail;refine F1.o.mono ?_;rintro e w10 ⟨v10,rfl,H10⟩;rw[HE.o.1]
      have F0:=zhd (H10.o.1.feed0 HG.o HN.o HK.o.1 HK.o.2.1 HK.o.2.2 H10.o.2.1 HW2.o (by have:=HE.o.2.2.1;omega) (by have:=HE.o.2.2.2;omega));clear x0 x1 x2 x3 x4 x5 x6 x7 x8 x9 x10 xl F1;go_wp2_with fail;refine F0.o.mono ?_;rintro e w11 ⟨v11,rfl,H11⟩;rw[HE.o.1];have PD:=zhd (H11.o.1.pending (by have:=HE.o.2.2.1;omega));clear F0;go_wp2_with fail;refine PD.o.mono ?_;rintro e w12 ⟨q12,rfl,H12⟩;obtain⟨a12,c12,rfl⟩:∃a c,q12= .slice a 0 c:=by
       obtain⟨a,c,h⟩:=H12.o.1.slice;rw[zmd,show ybD r1=[] by unfold ybD;rw[show(r1.err !=0)=true by simpa using HE.o.2.1];rfl]at h;exact⟨a,c,h⟩
      have H12B:=zhd (H11.o.2.1.trans (H12.o.2.2.mono H11.o.2.1.size));clear PD H12;go_wp2_with fail;go_ret;exact⟨rfl,H12B.o⟩
    ·obtain rfl:j=en:=by omega
     have hjj:¬(j:Int)<j:=by omega
     have hen:=HF.o.1.len;have hel:=HH.o.2.2.2.2;have F0:=zhd (L.feed0 HG.o HN.o HK.o.1 HK.o.2.1 HK.o.2.2 BW HW2.o (by omega) (by omega));have HRE:=zhd hre;clear hgk L BW hrs hrv hj hen hel hre;go_wp2_with fail;refine F0.o.mono ?_;rintro e w11 ⟨v11,rfl,H11⟩;rw[HRE.o];have H11B:=zhd H11.o.2.1;clear F0 H11;go_wp2_with fail;go_ret;exact⟨rfl,H11B.o⟩
end Go.Proofs.YtpagmlndgblhhaaGreatDoor
namespace Go
variable{H:Type} {enc:TypeId×Value→H}
theorem ygF {a:Assume}{C:Checked}{os:Os}{f:FuncId}{fn:Func}{s:ChangeSpec}{conds:List PathCond}{apart fresh handsOn again:Bool}{X:World→Array Value→Prop}
  (hX:∀(w w':World) (args:Array Value),w.heap=w'.heap→X w args→X w' args)
  (own:ownKnob C.prog.godebug=none)(started:os.Started)(noInit:C.prog.inits.idxOf? f=none)(hfn:C.prog.funcs[f]? =some fn)
  (witness:∃(w:World) (tape:Tape) (i:Input),w.os=os∧(w.forCall tape i).Shaped C.prog∧i.vars=[]∧Input.okWide C.prog (w.forCall tape i) .any w.heap.size f i∧
    ((s.pre enc C.prog fn conds apart (w.forCall tape i).memory i.args∧X (w.forCall tape i).memory i.args)∧sizedMet enc C.prog fn (OpenSpec.ofChange s) apart (w.forCall tape i).memory i.args)∧a.holds C.prog (lone (Frame.enter C.prog f i.args .normal) [] (w.forCall tape i)))
  (contract:∀(W:World) (base:Nat) (args:Array Value) (ds gs:List (DataW H)) (before:List MemPlace),
    (∀(j:Nat) t v,fn.params[j]? =some t→args[j]? =some v→Value.okWide C.prog W .any base t v)→
    DataW.Whole enc C.prog fn.params.toList s.vars apart W args.toList ds gs before→X W args→W.ShapedOpen C.prog→
    Calls C.prog f args W fun e W'=>∃v,e= .returned v∧s.post enc C.prog fn apart fresh handsOn again W args v W'):
  ReturnsInHanded a C os f .any (fun w args=>(s.pre enc C.prog fn conds apart w args∧X w args)∧sizedMet enc C.prog fn (OpenSpec.ofChange s) apart w args) (s.post enc C.prog fn apart fresh handsOn again):=by
 refine returnsInHanded_of_calls own started noInit witness ?_;intro w tape i _ hsh _ hok hpre _;obtain⟨_,_,_,fn',hfn',_,_,_,_,hval⟩:=hok;have e:fn'=fn:=Option.some.inj (hfn'.symm.trans hfn);subst e;obtain⟨⟨⟨ds,gs,before,hw,hc⟩,hx⟩,hz⟩:=hpre;have hw':=DataW.Whole.of_heap (w':=w.forCall tape i) (by rfl) hw;refine(contract (w.forCall tape i) w.heap.size i.args ds gs before hval hw' (hX _ _ _ (by rfl) hx) hsh).mono fun e W' ⟨v,he,hp⟩=> ?_;subst he;exact ChangeSpec.post_blind hp
end Go
namespace Go.Proofs.YtpagmlndgblhhaaGreatDoor
open Go.RowKit Go.Own Go.Own.MapTy Go.Va Go.Sort
theorem yoM: "*errors.errorString" = "*" ++ "errors.errorString" :=by kernel_rfl
theorem yjg (u:TypeId)(h:Tryz.prog.typeName? 3 u=some "*errors.errorString"):u=295:=
 typeName_ptr_named (nm:= "errors.errorString") (by rw[←yoM];kernel_rfl) (by kernel_rfl) (by decide) u (by rw[←yoM];exact h)
theorem yoj:Tryz.prog.globalNamed "internal/strconv.uint64pow10" =some 5:=by kernel_rfl
theorem yoQ:Tryz.prog.globalNamed "strconv.ErrSyntax" =some 3:=by kernel_rfl
theorem yok:Tryz.prog.globalNamed "strconv.ErrRange" =some 4:=by kernel_rfl
theorem ynl {W:World}(h:W.ShapedOpen Tryz.prog):∃m,W.cell? ⟨0,0,none⟩=some (.int .i64 m):=
 cell_of_shapedOpen_int (t:=3) (zero:=#[.int .i64 0]) h (znx (by kernel_rfl)) (by kernel_rfl) (by kernel_rfl) (by kernel_rfl) (by kernel_rfl) (by kernel_rfl)
theorem ylw {P:Program}{W:World}{s:String}{g:Nat}{cs:Array Value}(hg:P.globalNamed s=some g)(h:W.var? P s=some cs):g<W.heap.size:=by
 unfold World.var? at h;rw[hg]at h;by_cases hl:g<W.heap.size
 ·exact hl
 ·have:W.heap[g]? =none:=Array.getElem?_eq_none (by omega)
  simp[this]at h
theorem yoi {W:World}(h:laidMetH Tryz.prog Rows.replayRefusesRow.laid W)(hS:W.ShapedOpen Tryz.prog):Gl Tryz.prog 6 W:=by
 rw[MakeChecks.laidMetH_plain _ _ _ (by kernel_rfl)]at h;have t2:=h.tail.tail;have t4:=t2.tail.tail;have t5:=t4.tail;have hT:=Lib.tabIs_of_head (zs:=Lib.pow10Tab) (k:=.u64) (n:=20) yoj (t:=298) (by kernel_rfl) Tryz.underlying298 Tryz.underlying188 (by kernel_rfl) (by kernel_rfl) t2;obtain⟨a5,s5,hv5,_⟩:=laid_sentinel (ti:=250) (tp:=295) (te:=297) (ts:=9) t4 yok (by kernel_rfl) Tryz.underlying250 yjg Tryz.underlying295 Tryz.underlying297 rfl rfl Tryz.underlying9 (by kernel_rfl) (by kernel_rfl);obtain⟨a4,s4,hv4,_⟩:=laid_sentinel (ti:=250) (tp:=295) (te:=297) (ts:=9) t5 yoQ (by kernel_rfl) Tryz.underlying250 yjg Tryz.underlying295 Tryz.underlying297 rfl rfl Tryz.underlying9 (by kernel_rfl) (by kernel_rfl);exact⟨ynl hS,⟨_,_,hv4⟩,⟨_,_,hv5⟩,hT,⟨3,4,5,yoQ,yok,yoj,by decide,by decide,by decide⟩,by decide,by have h1:=ylw yok hv5;have h2:=ylw yoj hT;omega⟩
end Go.Proofs.YtpagmlndgblhhaaGreatDoor
