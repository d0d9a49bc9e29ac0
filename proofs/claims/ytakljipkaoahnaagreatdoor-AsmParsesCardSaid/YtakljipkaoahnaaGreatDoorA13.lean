/- Parts of the proof: what the functions and the plain laws give that later parts lean on. Conditions: none beyond those that each theorem names. -/
import Derived.Test.YtakljipkaoahnaaGreatDoorA12
set_option maxRecDepth 100000
set_option maxHeartbeats 8000000
namespace Go.Va
open Go.Own Go.RowKit
open Cells (sz enc)
theorem RdF.elems {α:Type}[Cells α]{F:Nat→Prop}{w:World}{a:Option Addr}{n cap:Nat}{xs:List α}(h:RdF F w (.slice a n cap) xs):n=xs.length∧n≤maxLen∧∃g off,(a=some ⟨g,off,none⟩∨xs=[])∧∀(i:Nat) (x:α),xs[i]? =some x→F g∧g<w.heap.size∧∀j u,(enc x)[j]? =some u→w.cell? ⟨g,off+(i*sz α+j),none⟩=some u:=by
 have hl:=h.length_le
 obtain⟨a',cap',hv,h1,h2,h3⟩:=h
 cases hv
 refine⟨rfl,hl,?_⟩
 cases xs with
 |nil=>exact⟨0,0,.inr rfl,fun i x hx=>by simp at hx⟩
 |cons y r=>
  obtain⟨g,off,ha,hF,hg,_⟩:=h3 0 y rfl
  refine⟨g,off,.inl ha,fun i x hx=> ?_⟩
  obtain⟨g',off',ha',hF',hg',hc⟩:=h3 i x hx
  rw[ha]at ha'
  cases ha'
  exact⟨hF',hg',hc⟩
structure Img where
 code:List In
 consts:List Val
 names:List ByteArray
 places:Int
structure IC where
 ca:Option Addr
 cn:Nat
 cc:Nat
 ka:Option Addr
 kn:Nat
 kc:Nat
 na:Option Addr
 nn:Nat
 nc:Nat
 pl:Int
def IC.cells (i:IC):Array Value:=#[.slice i.ca i.cn i.cc,.slice i.ka i.kn i.kc,.slice i.na i.nn i.nc,.int .i64 i.pl]
structure IAt (F:Nat→Prop)(w:World)(i:IC)(p:Img):Prop where
 code:RdF F w (.slice i.ca i.cn i.cc) p.code
 consts:VF F w (.slice i.ka i.kn i.kc) p.consts
 names:RdF F w (.slice i.na i.nn i.nc) p.names
 pl:i.pl=p.places
theorem IAt.keep {F S:Nat→Prop}{w w':World}{i:IC}{p:Img}(h:IAt F w i p)(K:Keeps S w w')(hs:∀g,F g→¬S g):IAt F w' i p:=⟨h.code.keep K hs,h.consts.keep K hs,h.names.keep K hs,h.pl⟩
theorem IAt.mono {F G:Nat→Prop}{w:World}{i:IC}{p:Img}(h:IAt F w i p)(hs:∀g,F g→g<w.heap.size→G g):IAt G w i p:=⟨h.code.mono hs,h.consts.mono hs,h.names.mono hs,h.pl⟩
theorem IAt.lens {F:Nat→Prop}{w:World}{i:IC}{p:Img}(h:IAt F w i p):i.cn=p.code.length∧i.kn=p.consts.length∧i.nn=p.names.length:=⟨h.code.elems.1,h.consts.elems.1,h.names.elems.1⟩
def mostL (p:Img)(k:Int):Int:=
 bif k==1 then p.consts.length else bif k==2 then p.names.length else bif k==3 then p.places else bif k==4 then p.code.length else bif k==5 then 17 else 1
end Go.Va
namespace Go.Proofs.YtakljipkaoahnaaGreatDoor
open Go.RowKit Go.Own Go.Own.MapTy Go.Va Go.Sort
open Go.Own.Cells (sz enc)
theorem most_any (F:Nat→Prop)(w:World)(i:IC)(p:Img)(k:Int)(H:IAt F w i p):Calls Tryz.prog 88 #[.agg #[.slice i.ca i.cn i.cc,.slice i.ka i.kn i.kc,.slice i.na i.nn i.nc,.int .i64 i.pl],.int .i64 k] w fun e w'=>e= .returned (.int .i64 (mostL p k))∧Below w.heap.size w w':=by
 obtain⟨h1,h2,h3⟩:=H.lens
 have h4:=H.pl
 have hr:mostL p k=bif k==1 then(i.kn:Int)else bif k==2 then(i.nn:Int)else bif k==3 then i.pl else bif k==4 then(i.cn:Int)else bif k==5 then 17 else 1:=by rw[h1,h2,h3,h4];rfl
 rw[hr]
 clear H h1 h2 h3 h4 hr
 obtain⟨ca,cn,cc,ka,kn,kc,na,nn,nc,pl⟩:=i
 dsimp only
 go_enter Tryz.func88,Tryz.ntmps88
 go_wp2_with fail
 all_goals
  go_ret
  exact⟨by simp only[*,cond_true,cond_false];rfl,zal⟩
def codeErr (p:Img):List In→Int
 |[]=>0
 |c::r=>bif !(ofL c.op).2 then 110 else bif decide (c.a<0)||decide (mostL p (ofL c.op).1.operand≤c.a)then 1 else codeErr p r
def nameErr:List ByteArray→Int
 |[]=>0
 |s::r=>bif decide (64<s.size)then 2 else nameErr r
def constErr:List Val→Int
 |[]=>0
 |x::r=>bif checkL x !=0 then checkL x else constErr r
def imgL (p:Img):Int:=
 bif decide (p.code.length=0)then 6 else
 bif decide (512<p.code.length)||(decide (64<p.consts.length)||decide (32<p.names.length))then 2 else
 bif decide (p.places<0)||decide (16<p.places)then 1 else
 bif constErr p.consts !=0 then constErr p.consts else
 bif nameErr p.names !=0 then nameErr p.names else codeErr p p.code
theorem check_short
  (F:Nat→Prop)(w:World)(i:IC)(p:Img)(H:IAt F w i p)(r:Int)
  (h:p.code.length=0)(hr:r=6):
  Calls Tryz.prog 36 #[.agg #[.slice i.ca i.cn i.cc,.slice i.ka i.kn i.kc,.slice i.na i.nn i.nc,.int .i64 i.pl]] w fun e w'=>e= .returned (.int .i64 r)∧Below w.heap.size w w'
  :=by
 subst hr
 have h1:=H.lens.1
 obtain⟨ca,cn,cc,ka,kn,kc,na,nn,nc,pl⟩:=i
 obtain rfl:cn=0:=by rw[←h];exact h1
 clear H h h1
 dsimp only
 go_enter Tryz.func36,Tryz.ntmps36
 go_wp2_with fail
 go_ret
 exact⟨rfl,zal⟩
theorem check_long
  (F:Nat→Prop)(w:World)(i:IC)(p:Img)(H:IAt F w i p)(r:Int)
  (h0:¬p.code.length=0)(h:512<p.code.length∨64<p.consts.length∨32<p.names.length)(hr:r=2):
  Calls Tryz.prog 36 #[.agg #[.slice i.ca i.cn i.cc,.slice i.ka i.kn i.kc,.slice i.na i.nn i.nc,.int .i64 i.pl]] w fun e w'=>e= .returned (.int .i64 r)∧Below w.heap.size w w'
  :=by
 subst hr
 obtain⟨h1,h2,h3⟩:=H.lens
 obtain⟨ca,cn,cc,ka,kn,kc,na,nn,nc,pl⟩:=i
 dsimp only at h1 h2 h3
 rw[←h1]at h h0
 rw[←h2,←h3]at h
 clear H h1 h2 h3
 have e0:((cn:Int)==0)=false:=by rw[beq_eq_false_iff_ne];omega
 dsimp only
 go_enter Tryz.func36,Tryz.ntmps36
 by_cases g1:512<cn
 ·have e1:(512:Int)<cn:=by omega
  clear h h0
  go_wp2_with fail
  go_ret
  exact⟨rfl,zal⟩
 ·have e1:¬(512:Int)<cn:=by omega
  by_cases g2:64<kn
  ·have e2:(64:Int)<kn:=by omega
   clear h h0
   go_wp2_with fail
   go_ret
   exact⟨rfl,zal⟩
  ·have e2:¬(64:Int)<kn:=by omega
   have e3:(32:Int)<nn:=by omega
   clear h h0
   go_wp2_with fail
   go_ret
   exact⟨rfl,zal⟩
theorem check_places
  (F:Nat→Prop)(w:World)(i:IC)(p:Img)(H:IAt F w i p)(r:Int)
  (h0:¬p.code.length=0)(h:p.code.length≤512∧p.consts.length≤64∧p.names.length≤32)(hp:p.places<0∨16<p.places)(hr:r=1):
  Calls Tryz.prog 36 #[.agg #[.slice i.ca i.cn i.cc,.slice i.ka i.kn i.kc,.slice i.na i.nn i.nc,.int .i64 i.pl]] w fun e w'=>e= .returned (.int .i64 r)∧Below w.heap.size w w'
  :=by
 subst hr
 obtain⟨h1,h2,h3⟩:=H.lens
 have h4:=H.pl
 obtain⟨ca,cn,cc,ka,kn,kc,na,nn,nc,pl⟩:=i
 dsimp only at h1 h2 h3 h4
 rw[←h1]at h h0
 rw[←h2,←h3]at h
 rw[←h4]at hp
 clear H h1 h2 h3 h4
 have e0:((cn:Int)==0)=false:=by rw[beq_eq_false_iff_ne];omega
 have e1:¬(512:Int)<cn:=by omega
 have e2:¬(64:Int)<kn:=by omega
 have e3:¬(32:Int)<nn:=by omega
 dsimp only
 go_enter Tryz.func36,Tryz.ntmps36
 by_cases g1:pl<0
 ·clear h h0 hp
  go_wp2_with fail
  go_ret
  exact⟨rfl,zal⟩
 ·have g2:16<pl:=by omega
  clear h h0 hp
  go_wp2_with fail
  go_ret
  exact⟨rfl,zal⟩
theorem check_rest
  (F:Nat→Prop)(w:World)(i:IC)(p:Img)(H:IAt F w i p)(r:Int)
  (hw:∀x∈p.consts,x.wf)(h0:¬p.code.length=0)(h:p.code.length≤512∧p.consts.length≤64∧p.names.length≤32)(hp:0≤p.places∧p.places≤16)
  (hr:(bif constErr p.consts !=0 then constErr p.consts else bif nameErr p.names !=0 then nameErr p.names else codeErr p p.code)=r):
  Calls Tryz.prog 36 #[.agg #[.slice i.ca i.cn i.cc,.slice i.ka i.kn i.kc,.slice i.na i.nn i.nc,.int .i64 i.pl]] w fun e w'=>e= .returned (.int .i64 r)∧Below w.heap.size w w'
  :=by
 obtain⟨h1,h2,h3⟩:=H.lens
 have h4:=H.pl
 have HI:=zhd H
 have hc:=H.code.elems.2.2
 have hk:=H.consts.elems.2.2
 have hn:=H.names.elems.2.2
 obtain⟨ca,cn,cc,ka,kn,kc,na,nn,nc,pl⟩:=i
 dsimp only at h1 h2 h3 h4 hc hk hn
 have HE:=zh5 hc hk hn hw hr
 have HL:=zh3 h1 h2 h3
 rw[←h1]at h h0
 rw[←h2,←h3]at h
 rw[←h4]at hp
 clear H h1 h2 h3 h4 hc hk hn hw hr
 have e0:((cn:Int)==0)=false:=by rw[beq_eq_false_iff_ne];omega
 have e1:¬(512:Int)<cn:=by omega
 have e2:¬(64:Int)<kn:=by omega
 have e3:¬(32:Int)<nn:=by omega
 have e4:¬pl<0:=by omega
 have e5:¬(16:Int)<pl:=by omega
 obtain⟨g1,g2,g3⟩:=h
 dsimp only
 go_enter Tryz.func36,Tryz.ntmps36
 go_wp2_with fail
 obtain⟨w0,hw0⟩:∃w0,w0=w.alloc (.cells #[.slice ca cn cc,.slice ka kn kc,.slice na nn nc,.int .i64 pl] 27):=⟨_,rfl⟩
 have B0:=zba hw0
 have q:∀o,w0.cell? ⟨w.heap.size,o,none⟩=(#[.slice ca cn cc,.slice ka kn kc,.slice na nn nc,.int .i64 pl]:Array Value)[o]? :=fun o=>by rw[hw0,zch (heap_alloc_new _ _)]
 have sz0:w0.heap.size=w.heap.size+1:=by rw[hw0];simp
 rw[←hw0]
 have H0:=zh3 B0 q sz0
 clear hw0 B0 q sz0 e0 e1 e2 e3 e4 e5
 go_loopg [46] (p.consts.length) (fun gk v46 wr=>∃i:Nat,v46= .int .i64 i∧i≤p.consts.length∧gk=p.consts.length - i∧constErr (p.consts.drop i)=constErr p.consts∧Below w0.heap.size w0 wr)
 case atStart=>exact⟨0,rfl,Nat.zero_le _,rfl,rfl,Below.refl _ _⟩
 case round=>
  obtain⟨i,rfl,hi,hgk,hce,hB⟩:=hrel
  have szr:=hB.size
  have BW:=H0.out.1.trans (hB.mono (show w.heap.size≤w0.heap.size by have:=H0.out.2.2;omega))
  by_cases hin:i<kn
  ·obtain⟨x,hx⟩:=elem_at (l:=p.consts) (k:=i) (by have:=HL.out.2.1;omega)
   have hdr:p.consts.drop i=x::p.consts.drop (i+1):=by
    rw[List.drop_eq_getElem_cons (zge hx).1,(zge hx).2]
   rw[hdr,constErr]at hce
   obtain⟨g,off,ha,hFg,hg,hel⟩:=HE.out.2.1.resolve_left (fun e=>by rw[e]at hx;simp at hx)
   obtain⟨d,hD,m0,m1,m2,m3⟩:=hel i x hx
   subst ha
   have hgl:g<wr.heap.size:=by have:=BW.size;omega
   rw[←BW.cell (p:=⟨g,_,none⟩) hg]at m0 m1 m2 m3
   have hin':(i:Int)<kn:=by omega
   have CK:=zhd (check_any x d.kind d.n d.s d.la d.ln d.lc _ _ (hD.keep (S:=fun _=>False) ((zkb BW).alloc (.cells #[.int .i64 d.kind,.int .i64 d.n,.string d.s,.slice d.la d.ln d.lc] 39)) (fun _ _ f=>f)) (HE.out.2.2.2.1 x (zmg hx)) _ rfl)
   generalize checkL x=cl at*
   have HX:=zh4 hce hgk hB BW
   clear hce hgk hB BW hel hD hx hdr
   go_wp2_with fail
   refine CK.out.mono ?_
   rintro e w5 ⟨rfl,hB5⟩
   have H5:=zhd (show Below wr.heap.size wr w5 from(zal).trans (hB5.mono (by simp)))
   clear hB5 CK
   cases hz:(cl !=0)with
   |true=>
    have hr:=HE.out.2.2.2.2
    have hc:=HX.out.1
    rw[hz]at hc
    simp only[cond_true]at hc
    rw[←hc,hz]at hr
    simp only[cond_true]at hr
    have HR:=zhd hr
    clear hr hc
    go_wp2_with fail
    go_ret
    exact⟨by rw[←HR.out];rfl,HX.out.2.2.2.trans (H5.out.mono HX.out.2.2.2.size)⟩
   |false=>
    have hc:=HX.out.1
    rw[hz]at hc
    simp only[cond_false]at hc
    have HC:=zhd hc
    clear hc
    go_wp2_with fail
    go_roundg (p.consts.length - (i+1))
    case measure=>have:=HX.out.2.1;have:=HL.out.2.1;omega
    case rel=>exact⟨i+1,by simp,by have:=HL.out.2.1;omega,rfl,HC.out,HX.out.2.2.1.trans (H5.out.mono szr)⟩
  ·obtain rfl:i=kn:=by have:=HL.out.2.1;omega
   have hdn:p.consts.drop i=[]:=List.drop_eq_nil_of_le (by have:=HL.out.2.1;omega)
   rw[hdn,constErr]at hce
   have hr:=HE.out.2.2.2.2
   rw[←hce]at hr
   simp only[bne_self_eq_false,cond_false]at hr
   have HR1:=zhd hr
   have lt1:w.heap.size<w0.heap.size:=by have:=H0.out.2.2;omega
   have q0:=(hB.cell (p:=⟨w.heap.size,0,none⟩) lt1).trans (H0.out.2.1 0)
   have q1:=(hB.cell (p:=⟨w.heap.size,1,none⟩) lt1).trans (H0.out.2.1 1)
   have q2:=(hB.cell (p:=⟨w.heap.size,2,none⟩) lt1).trans (H0.out.2.1 2)
   have q3:=(hB.cell (p:=⟨w.heap.size,3,none⟩) lt1).trans (H0.out.2.1 3)
   simp only[List.getElem?_toArray,List.getElem?_cons_zero,List.getElem?_cons_succ]at q0 q1 q2 q3
   have ltr:w.heap.size<wr.heap.size:=by omega
   have HBW:=zhd BW
   obtain⟨wm,hwm⟩:∃wm,wm=wr:=⟨_,rfl⟩
   rw[←hwm]at q0 q1 q2 q3 ltr HBW⊢
   clear hr hce hgk hdn hB BW hin hi hwm szr
   go_wp2_with fail
   go_loopg [59] (p.names.length) (fun gk v59 wr=>∃i:Nat,v59= .int .i64 i∧i≤p.names.length∧gk=p.names.length - i∧nameErr (p.names.drop i)=nameErr p.names∧wr=wm)
   case atStart=>exact⟨0,rfl,Nat.zero_le _,rfl,rfl,rfl⟩
   case round=>
    obtain⟨j,rfl,hj,hgk,hne,hwr⟩:=hrel
    subst hwr
    by_cases hjn:j<nn
    ·obtain⟨x,hx⟩:=elem_at (l:=p.names) (k:=j) (by have:=HL.out.2.2;omega)
     have hdr:p.names.drop j=x::p.names.drop (j+1):=by
      rw[List.drop_eq_getElem_cons (zge hx).1,(zge hx).2]
     rw[hdr,nameErr]at hne
     obtain⟨g,off,ha,hel⟩:=HE.out.2.2.1
     obtain⟨hFg,hg,hcs⟩:=hel j x hx
     have ha:=ha.resolve_right (fun e=>by rw[e]at hx;simp at hx)
     subst ha
     have m0:=hcs 0 _ rfl
     rw[show off+(j*sz ByteArray+0)=off+j from by simp[Cells.sz]]at m0
     rw[←HBW.out.cell (p:=⟨g,_,none⟩) hg]at m0
     have hjn':(j:Int)<nn:=by omega
     cases hz:decide (64<x.size)with
     |true=>
      have h5:(64:Int)<x.size:=by have:=of_decide_eq_true hz;omega
      rw[hz]at hne
      simp only[cond_true]at hne
      have hr:=HR1.out
      rw[←hne]at hr
      have HR:=zhd hr
      clear hr hne hgk hdr hx hcs hel hz
      go_wp2_with fail
      go_ret
      exact⟨by rw[←HR.out];rfl,HBW.out⟩
     |false=>
      have h5:¬(64:Int)<x.size:=by have:=of_decide_eq_false hz;omega
      rw[hz]at hne
      simp only[cond_false]at hne
      have HX:=zh2 hne hgk
      clear hne hgk hdr hx hcs hel hz
      go_wp2_with fail
      go_roundg (p.names.length - (j+1))
      case measure=>have:=HX.out.2;have:=HL.out.2.2;omega
      case rel=>exact⟨j+1,by simp,by have:=HL.out.2.2;omega,rfl,HX.out.1,rfl⟩
    ·obtain rfl:j=nn:=by have:=HL.out.2.2;omega
     have hdn:p.names.drop j=[]:=List.drop_eq_nil_of_le (by have:=HL.out.2.2;omega)
     rw[hdn,nameErr]at hne
     have hr:=HR1.out
     rw[←hne]at hr
     simp only[bne_self_eq_false,cond_false]at hr
     have HR2:=zhd hr
     clear hr hne hgk hdn hjn hj
     obtain⟨wm,hwm⟩:∃wm,wm=wr:=⟨_,rfl⟩
     rw[←hwm]at q0 q1 q2 q3 ltr HBW⊢
     clear hwm
     go_wp2_with fail
     go_loopg [70] (p.code.length) (fun gk v70 wr=>∃i:Nat,v70= .int .i64 i∧i≤p.code.length∧gk=p.code.length - i∧codeErr p (p.code.drop i)=r∧Below wm.heap.size wm wr)
     case atStart=>exact⟨0,rfl,Nat.zero_le _,rfl,HR2.out,Below.refl _ _⟩
     case round=>
      obtain⟨k,rfl,hk,hgk,hce,hB⟩:=hrel
      have szr:=hB.size
      have ltk:w.heap.size<wr.heap.size:=by omega
      have BW:=HBW.out.trans (hB.mono (Nat.le_of_lt ltr))
      rw[←hB.cell (p:=⟨w.heap.size,_,none⟩) ltr]at q0 q1 q2 q3
      by_cases hkn:k<cn
      ·obtain⟨c,hx⟩:=elem_at (l:=p.code) (k:=k) (by have:=HL.out.1;omega)
       have hdr:p.code.drop k=c::p.code.drop (k+1):=by
        rw[List.drop_eq_getElem_cons (zge hx).1,(zge hx).2]
       rw[hdr,codeErr]at hce
       obtain⟨g,off,ha,hel⟩:=HE.out.1
       obtain⟨hFg,hg,hcs⟩:=hel k c hx
       have ha:=ha.resolve_right (fun e=>by rw[e]at hx;simp at hx)
       subst ha
       have m0:=hcs 0 _ rfl
       have m1:=hcs 1 _ rfl
       rw[show off+(k*sz In+0)=off+k*2 from rfl,←BW.cell (p:=⟨g,_,none⟩) hg]at m0
       rw[show off+(k*sz In+1)=off+k*2+1 from rfl,←BW.cell (p:=⟨g,_,none⟩) hg]at m1
       have hkn':(k:Int)<cn:=by omega
       obtain⟨inf,ok,hof⟩:∃inf ok,ofL c.op=(inf,ok):=⟨_,_,rfl⟩
       have OF:=zhd (show∀W,Calls Tryz.prog 73 #[.int .i64 c.op] W (fun e w'=>e= .returned (.tuple #[.agg #[.string inf.name,.int .i64 inf.operand,.int .i64 inf.i,.int .i64 inf.o,.bool inf.blocks,.bool inf.ends,.bool inf.flow],.bool ok])∧Below W.heap.size W w')from fun W=>(of_any c.op W).mono fun e w' ⟨j1,j2⟩=>⟨by rw[j1,hof];rfl,j2⟩)
       rw[hof]at hce
       obtain⟨cop,cav⟩:=c
       dsimp only at m0 m1 OF hce hof
       have HX:=zh3 hgk hB BW
       have HCE:=zhd hce
       clear hgk hB BW hcs hel hdr hx hce hof
       go_wp2_with fail
       refine(OF.out _).mono ?_
       rintro e w5 ⟨rfl,hB5⟩
       have lt5:wr.heap.size<w5.heap.size:=by have:=hB5.size;simp at this;omega
       have i0:w5.cell? ⟨wr.heap.size,0,none⟩=some (.int .i64 cop):=by rw[hB5.cell (p:=⟨wr.heap.size,0,none⟩) (by simp),zch (heap_alloc_new _ _)];rfl
       have i1:w5.cell? ⟨wr.heap.size,1,none⟩=some (.int .i64 cav):=by rw[hB5.cell (p:=⟨wr.heap.size,1,none⟩) (by simp),zch (heap_alloc_new _ _)];rfl
       have B5:Below wr.heap.size wr w5:=((Below.refl _ _).alloc (Nat.le_refl _) (.cells #[.int .i64 cop,.int .i64 cav] 43)).trans (hB5.mono (by simp))
       have HB5:=zhd B5
       clear hB5 OF
       cases ok with
       |false=>
        have hc:=HCE.out
        simp only[Bool.not_false,cond_true]at hc
        have HR:=zhd hc
        clear hc B5
        go_wp2_with fail
        go_ret
        exact⟨by rw[←HR.out];rfl,(HX.out.2.2.trans (HB5.out.mono HX.out.2.2.size)).alloc (by have:=HX.out.2.2.size;omega) _⟩
       |true=>
        have hc:=HCE.out
        simp only[Bool.not_true,cond_false]at hc
        obtain⟨w6,hw6⟩:∃w6,w6=w5.alloc (.cells #[.string inf.name,.int .i64 inf.operand,.int .i64 inf.i,.int .i64 inf.o,.bool inf.blocks,.bool inf.ends,.bool inf.flow] 148):=⟨_,rfl⟩
        have B6:Below wr.heap.size wr w6:=by rw[hw6];exact B5.alloc (by omega) _
        have sz6:w5.heap.size<w6.heap.size:=by rw[hw6];simp
        have u1:w6.cell? ⟨w5.heap.size,1,none⟩=some (.int .i64 inf.operand):=by rw[hw6,zch (heap_alloc_new _ _)];rfl
        have i1:w6.cell? ⟨wr.heap.size,1,none⟩=some (.int .i64 cav):=by rw[hw6];exact(World.cell?_of_block (w:=w5) (Below.heap_alloc _ _ _ lt5)).trans i1
        rw[←B6.cell (p:=⟨w.heap.size,_,none⟩) ltk]at q0 q1 q2 q3
        have lt6:w.heap.size<w6.heap.size:=by omega
        have lt7:wr.heap.size<w6.heap.size:=by omega
        have HB6:=zhd (HX.out.2.2.trans (B6.mono HX.out.2.2.size))
        have HBr:=zhd (HX.out.2.1.trans (B6.mono szr))
        go_wp2_with fail
        rw[←hw6]
        clear hw6 B5 B6 HB5
        cases hneg:decide (cav<0)with
        |true=>
         rw[hneg]at hc
         simp only[Bool.true_or,cond_true]at hc
         have HR:=zhd hc
         have h6:cav<0:=of_decide_eq_true hneg
         clear hc
         refine wp_region_ext (by kernel_rfl) (by kernel_rfl) ?_
         repeat(go_big_quiet_step (fail))
         refine wpQuiet_nil ?_
         intro w7 hB7
         go_wp2_with fail
         go_ret
         exact⟨by rw[←HR.out];rfl,HB6.out.trans (hB7.mono HB6.out.size)⟩
        |false=>
         rw[hneg]at hc
         simp only[Bool.false_or]at hc
         have h6:¬cav<0:=of_decide_eq_false hneg
         have MO:=zhd (fun W (hW:Below w6.heap.size w6 W)=>most_any _ W ⟨some ⟨g,off,none⟩,cn,cc,ka,i,kc,na,j,nc,pl⟩ p inf.operand (HI.out.keep (S:=fun _=>False) (zkb (HB6.out.trans (hW.mono HB6.out.size))) (fun _ _ f=>f)))
         generalize mostL p inf.operand=mo at*
         cases hge:decide (mo≤cav)with
         |true=>
          rw[hge]at hc
          simp only[cond_true]at hc
          have HR:=zhd hc
          have h7:mo≤cav:=of_decide_eq_true hge
          clear hc hneg hge
          refine wp_region_ext (by kernel_rfl) (by kernel_rfl) ?_
          repeat(go_big_quiet_step ((go_at_call 88;exact ext_call (MO.out _ (Subtype.property _)))))
          refine wpQuiet_nil ?_
          intro w7 hB7
          go_wp2_with fail
          go_ret
          exact⟨by rw[←HR.out];rfl,HB6.out.trans (hB7.mono HB6.out.size)⟩
         |false=>
          rw[hge]at hc
          simp only[cond_false]at hc
          have HR:=zhd hc
          have h7:¬mo≤cav:=of_decide_eq_false hge
          clear hc hneg hge
          refine wp_region_ext (by kernel_rfl) (by kernel_rfl) ?_
          repeat(go_big_quiet_step ((go_at_call 88;exact ext_call (MO.out _ (Subtype.property _)))))
          refine wpQuiet_nil ?_
          intro w7 hB7
          go_wp2_with fail
          go_roundg (p.code.length - (k+1))
          case measure=>have:=HX.out.1;have:=HL.out.1;omega
          case rel=>exact⟨k+1,by simp,by have:=HL.out.1;omega,rfl,HR.out,HBr.out.trans (hB7.mono HBr.out.size)⟩
      ·obtain rfl:k=cn:=by have:=HL.out.1;omega
       have hdn:p.code.drop k=[]:=List.drop_eq_nil_of_le (by have:=HL.out.1;omega)
       rw[hdn,codeErr]at hce
       have HR:=zhd hce
       have HBE:=zhd BW
       clear hce hgk hB BW
       go_wp2_with fail
       go_ret
       exact⟨by rw[←HR.out];rfl,HBE.out⟩
theorem imgcheck_any
  (F:Nat→Prop)(w:World)(i:IC)(p:Img)(H:IAt F w i p)(r:Int)
  (hw:∀x∈p.consts,x.wf)(hr:imgL p=r):
  Calls Tryz.prog 36 #[.agg #[.slice i.ca i.cn i.cc,.slice i.ka i.kn i.kc,.slice i.na i.nn i.nc,.int .i64 i.pl]] w fun e w'=>e= .returned (.int .i64 r)∧Below w.heap.size w w'
  :=by
 unfold imgL at hr
 by_cases h0:p.code.length=0
 ·rw[decide_eq_true h0]at hr
  exact check_short F w i p H r h0 hr.symm
 ·rw[decide_eq_false h0]at hr
  simp only[cond_false]at hr
  by_cases h1:512<p.code.length∨64<p.consts.length∨32<p.names.length
  ·have e:(decide (512<p.code.length)||(decide (64<p.consts.length)||decide (32<p.names.length)))=true:=by simpa using h1
   rw[e]at hr
   exact check_long F w i p H r h0 h1 hr.symm
  ·have e:(decide (512<p.code.length)||(decide (64<p.consts.length)||decide (32<p.names.length)))=false:=by
    rw[Bool.eq_false_iff]
    exact fun h=>h1 (by simpa using h)
   rw[e]at hr
   simp only[cond_false]at hr
   by_cases h2:p.places<0∨16<p.places
   ·have e:(decide (p.places<0)||decide (16<p.places))=true:=by simpa using h2
    rw[e]at hr
    exact check_places F w i p H r h0 (by omega) h2 hr.symm
   ·have e:(decide (p.places<0)||decide (16<p.places))=false:=by
     rw[Bool.eq_false_iff]
     exact fun h=>h2 (by simpa using h)
    rw[e]at hr
    exact check_rest F w i p H r hw h0 (by omega) (by omega) hr
end Go.Proofs.YtakljipkaoahnaaGreatDoor
