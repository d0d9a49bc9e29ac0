/- Parts of the proof: what the functions and the plain laws give that later parts lean on. Conditions: none beyond those that each theorem names. -/
import Derived.Shelf.LaysM
import Derived.Shelf.LaysC
import Derived.Shelf.Strings.OnBuilder
import Derived.Shelf.Strings.BuilderK
import Derived.Test.YtakljipkaoahnaaGreatDoorProg
import Derived.Test.YtakljipkaoahnaaGreatDoorB4
set_option maxRecDepth 100000
set_option maxHeartbeats 8000000
namespace Go.Va
open Go.Own Go.RowKit
open Cells (sz enc)
theorem RdF.elems {α:Type}[Cells α]{F:Nat→Prop}{w:World}{a:Option Addr}{n cap:Nat}{xs:List α}(h:RdF F w (.slice a n cap) xs):n=xs.length∧n≤maxLen∧∃g off,(a=some ⟨g,off,none⟩∨xs=[])∧∀(i:Nat) (x:α),xs[i]? =some x→F g∧g<w.heap.size∧∀j u,(enc x)[j]? =some u→w.cell? ⟨g,off+(i*sz α+j),none⟩=some u:=by
 have hl:=h.length_le
 obtain⟨a',cap',hv,h1,h2,h3⟩:=h
 cases hv
 refine⟨rfl,hl,?_⟩
 cases xs with
 |nil=>exact⟨0,0,.inr rfl,fun i x hx=>by simp at hx⟩
 |cons y r=>
  obtain⟨g,off,ha,hF,hg,_⟩:=h3 0 y rfl
  refine⟨g,off,.inl ha,fun i x hx=> ?_⟩
  obtain⟨g',off',ha',hF',hg',hc⟩:=h3 i x hx
  rw[ha]at ha'
  cases ha'
  exact⟨hF',hg',hc⟩
structure Img where
 code:List In
 consts:List Val
 names:List ByteArray
 places:Int
structure IC where
 ca:Option Addr
 cn:Nat
 cc:Nat
 ka:Option Addr
 kn:Nat
 kc:Nat
 na:Option Addr
 nn:Nat
 nc:Nat
 pl:Int
def IC.cells (i:IC):Array Value:=#[.slice i.ca i.cn i.cc,.slice i.ka i.kn i.kc,.slice i.na i.nn i.nc,.int .i64 i.pl]
structure IAt (F:Nat→Prop)(w:World)(i:IC)(p:Img):Prop where
 code:RdF F w (.slice i.ca i.cn i.cc) p.code
 consts:VF F w (.slice i.ka i.kn i.kc) p.consts
 names:RdF F w (.slice i.na i.nn i.nc) p.names
 pl:i.pl=p.places
theorem IAt.keep {F S:Nat→Prop}{w w':World}{i:IC}{p:Img}(h:IAt F w i p)(K:Keeps S w w')(hs:∀g,F g→¬S g):IAt F w' i p:=⟨h.code.keep K hs,h.consts.keep K hs,h.names.keep K hs,h.pl⟩
theorem IAt.mono {F G:Nat→Prop}{w:World}{i:IC}{p:Img}(h:IAt F w i p)(hs:∀g,F g→g<w.heap.size→G g):IAt G w i p:=⟨h.code.mono hs,h.consts.mono hs,h.names.mono hs,h.pl⟩
theorem IAt.lens {F:Nat→Prop}{w:World}{i:IC}{p:Img}(h:IAt F w i p):i.cn=p.code.length∧i.kn=p.consts.length∧i.nn=p.names.length:=⟨h.code.elems.1,h.consts.elems.1,h.names.elems.1⟩
def mostL (p:Img)(k:Int):Int:=
 bif k==1 then p.consts.length else bif k==2 then p.names.length else bif k==3 then p.places else bif k==4 then p.code.length else bif k==5 then 17 else 1
end Go.Va
namespace Go.Proofs.YtakljipkaoahnaaGreatDoor
open Go.RowKit Go.Own Go.Own.MapTy Go.Va Go.Sort
open Go.Own.Cells (sz enc)
theorem most_any (F:Nat→Prop)(w:World)(i:IC)(p:Img)(k:Int)(H:IAt F w i p):Calls Tryz.prog 88 #[.agg #[.slice i.ca i.cn i.cc,.slice i.ka i.kn i.kc,.slice i.na i.nn i.nc,.int .i64 i.pl],.int .i64 k] w fun e w'=>e= .returned (.int .i64 (mostL p k))∧Below w.heap.size w w':=by
 obtain⟨h1,h2,h3⟩:=H.lens
 have h4:=H.pl
 have hr:mostL p k=bif k==1 then(i.kn:Int)else bif k==2 then(i.nn:Int)else bif k==3 then i.pl else bif k==4 then(i.cn:Int)else bif k==5 then 17 else 1:=by rw[h1,h2,h3,h4];rfl
 rw[hr]
 clear H h1 h2 h3 h4 hr
 obtain⟨ca,cn,cc,ka,kn,kc,na,nn,nc,pl⟩:=i
 dsimp only
 go_enter Tryz.func88,Tryz.ntmps88
 go_wp2_with fail
 all_goals
  go_ret
  exact⟨by simp only[*,cond_true,cond_false];rfl,zal⟩
def codeErr (p:Img):List In→Int
 |[]=>0
 |c::r=>bif !(ofL c.op).2 then 110 else bif decide (c.a<0)||decide (mostL p (ofL c.op).1.operand≤c.a)then 1 else codeErr p r
def nameErr:List ByteArray→Int
 |[]=>0
 |s::r=>bif decide (64<s.size)then 2 else nameErr r
def constErr:List Val→Int
 |[]=>0
 |x::r=>bif checkL x !=0 then checkL x else constErr r
def imgL (p:Img):Int:=
 bif decide (p.code.length=0)then 6 else
 bif decide (512<p.code.length)||(decide (64<p.consts.length)||decide (32<p.names.length))then 2 else
 bif decide (p.places<0)||decide (16<p.places)then 1 else
 bif constErr p.consts !=0 then constErr p.consts else
 bif nameErr p.names !=0 then nameErr p.names else codeErr p p.code
theorem check_short
 (F:Nat→Prop)(w:World)(i:IC)(p:Img)(H:IAt F w i p)(r:Int)
 (h:p.code.length=0)(hr:r=6):
 Calls Tryz.prog 36 #[.agg #[.slice i.ca i.cn i.cc,.slice i.ka i.kn i.kc,.slice i.na i.nn i.nc,.int .i64 i.pl]] w fun e w'=>e= .returned (.int .i64 r)∧Below w.heap.size w w'
 :=by
 subst hr
 have h1:=H.lens.1
 obtain⟨ca,cn,cc,ka,kn,kc,na,nn,nc,pl⟩:=i
 obtain rfl:cn=0:=by rw[←h];exact h1
 clear H h h1
 dsimp only
 go_enter Tryz.func36,Tryz.ntmps36
 go_wp2_with fail
 go_ret
 exact⟨rfl,zal⟩
theorem check_long
 (F:Nat→Prop)(w:World)(i:IC)(p:Img)(H:IAt F w i p)(r:Int)
 (h0:¬p.code.length=0)(h:512<p.code.length∨64<p.consts.length∨32<p.names.length)(hr:r=2):
 Calls Tryz.prog 36 #[.agg #[.slice i.ca i.cn i.cc,.slice i.ka i.kn i.kc,.slice i.na i.nn i.nc,.int .i64 i.pl]] w fun e w'=>e= .returned (.int .i64 r)∧Below w.heap.size w w'
 :=by
 subst hr
 obtain⟨h1,h2,h3⟩:=H.lens
 obtain⟨ca,cn,cc,ka,kn,kc,na,nn,nc,pl⟩:=i
 dsimp only at h1 h2 h3
 rw[←h1]at h h0
 rw[←h2,←h3]at h
 clear H h1 h2 h3
 have e0:((cn:Int)==0)=false:=by rw[beq_eq_false_iff_ne];omega
 dsimp only
 go_enter Tryz.func36,Tryz.ntmps36
 by_cases g1:512<cn
 ·have e1:(512:Int)<cn:=by omega
  clear h h0
  go_wp2_with fail
  go_ret
  exact⟨rfl,zal⟩
 ·have e1:¬(512:Int)<cn:=by omega
  by_cases g2:64<kn
  ·have e2:(64:Int)<kn:=by omega
   clear h h0
   go_wp2_with fail
   go_ret
   exact⟨rfl,zal⟩
  ·have e2:¬(64:Int)<kn:=by omega
   have e3:(32:Int)<nn:=by omega
   clear h h0
   go_wp2_with fail
   go_ret
   exact⟨rfl,zal⟩
theorem check_places
 (F:Nat→Prop)(w:World)(i:IC)(p:Img)(H:IAt F w i p)(r:Int)
 (h0:¬p.code.length=0)(h:p.code.length≤512∧p.consts.length≤64∧p.names.length≤32)(hp:p.places<0∨16<p.places)(hr:r=1):
 Calls Tryz.prog 36 #[.agg #[.slice i.ca i.cn i.cc,.slice i.ka i.kn i.kc,.slice i.na i.nn i.nc,.int .i64 i.pl]] w fun e w'=>e= .returned (.int .i64 r)∧Below w.heap.size w w'
 :=by
 subst hr
 obtain⟨h1,h2,h3⟩:=H.lens
 have h4:=H.pl
 obtain⟨ca,cn,cc,ka,kn,kc,na,nn,nc,pl⟩:=i
 dsimp only at h1 h2 h3 h4
 rw[←h1]at h h0
 rw[←h2,←h3]at h
 rw[←h4]at hp
 clear H h1 h2 h3 h4
 have e0:((cn:Int)==0)=false:=by rw[beq_eq_false_iff_ne];omega
 have e1:¬(512:Int)<cn:=by omega
 have e2:¬(64:Int)<kn:=by omega
 have e3:¬(32:Int)<nn:=by omega
 dsimp only
 go_enter Tryz.func36,Tryz.ntmps36
 by_cases g1:pl<0
 ·clear h h0 hp
  go_wp2_with fail
  go_ret
  exact⟨rfl,zal⟩
 ·have g2:16<pl:=by omega
  clear h h0 hp
  go_wp2_with fail
  go_ret
  exact⟨rfl,zal⟩
theorem check_rest
 (F:Nat→Prop)(w:World)(i:IC)(p:Img)(H:IAt F w i p)(r:Int)
 (hw:∀x∈p.consts,x.wf)(h0:¬p.code.length=0)(h:p.code.length≤512∧p.consts.length≤64∧p.names.length≤32)(hp:0≤p.places∧p.places≤16)
 (hr:(bif constErr p.consts !=0 then constErr p.consts else bif nameErr p.names !=0 then nameErr p.names else codeErr p p.code)=r):
 Calls Tryz.prog 36 #[.agg #[.slice i.ca i.cn i.cc,.slice i.ka i.kn i.kc,.slice i.na i.nn i.nc,.int .i64 i.pl]] w fun e w'=>e= .returned (.int .i64 r)∧Below w.heap.size w w'
 :=by
 obtain⟨h1,h2,h3⟩:=H.lens
 have h4:=H.pl
 have HI:=zhd H
 have hc:=H.code.elems.2.2
 have hk:=H.consts.elems.2.2
 have hn:=H.names.elems.2.2
 obtain⟨ca,cn,cc,ka,kn,kc,na,nn,nc,pl⟩:=i
 dsimp only at h1 h2 h3 h4 hc hk hn
 have HE:=zh5 hc hk hn hw hr
 have HL:=zh3 h1 h2 h3
 rw[←h1]at h h0
 rw[←h2,←h3]at h
 rw[←h4]at hp
 clear H h1 h2 h3 h4 hc hk hn hw hr
 have e0:((cn:Int)==0)=false:=by rw[beq_eq_false_iff_ne];omega
 have e1:¬(512:Int)<cn:=by omega
 have e2:¬(64:Int)<kn:=by omega
 have e3:¬(32:Int)<nn:=by omega
 have e4:¬pl<0:=by omega
 have e5:¬(16:Int)<pl:=by omega
 obtain⟨g1,g2,g3⟩:=h
 dsimp only
 go_enter Tryz.func36,Tryz.ntmps36
 go_wp2_with fail
 obtain⟨w0,hw0⟩:∃w0,w0=w.alloc (.cells #[.slice ca cn cc,.slice ka kn kc,.slice na nn nc,.int .i64 pl] 27):=⟨_,rfl⟩
 have B0:=zba hw0
 have q:∀o,w0.cell? ⟨w.heap.size,o,none⟩=(#[.slice ca cn cc,.slice ka kn kc,.slice na nn nc,.int .i64 pl]:Array Value)[o]? :=fun o=>by rw[hw0,zch (heap_alloc_new _ _)]
 have sz0:w0.heap.size=w.heap.size+1:=by rw[hw0];simp
 rw[←hw0]
 have H0:=zh3 B0 q sz0
 clear hw0 B0 q sz0 e0 e1 e2 e3 e4 e5
 go_loopg [46] (p.consts.length) (fun gk v46 wr=>∃i:Nat,v46= .int .i64 i∧i≤p.consts.length∧gk=p.consts.length - i∧constErr (p.consts.drop i)=constErr p.consts∧Below w0.heap.size w0 wr)
 case atStart=>exact⟨0,rfl,Nat.zero_le _,rfl,rfl,Below.refl _ _⟩
 case round=>
  obtain⟨i,rfl,hi,hgk,hce,hB⟩:=hrel
  have szr:=hB.size
  have BW:=H0.out.1.trans (hB.mono (show w.heap.size≤w0.heap.size by have:=H0.out.2.2;omega))
  by_cases hin:i<kn
  ·obtain⟨x,hx⟩:=elem_at (l:=p.consts) (k:=i) (by have:=HL.out.2.1;omega)
   have hdr:p.consts.drop i=x::p.consts.drop (i+1):=by
    rw[List.drop_eq_getElem_cons (zge hx).1,(zge hx).2]
   rw[hdr,constErr]at hce
   obtain⟨g,off,ha,hFg,hg,hel⟩:=HE.out.2.1.resolve_left (fun e=>by rw[e]at hx;simp at hx)
   obtain⟨d,hD,m0,m1,m2,m3⟩:=hel i x hx
   subst ha
   have hgl:g<wr.heap.size:=by have:=BW.size;omega
   rw[←BW.cell (p:=⟨g,_,none⟩) hg]at m0 m1 m2 m3
   have hin':(i:Int)<kn:=by omega
   have CK:=zhd (check_any x d.kind d.n d.s d.la d.ln d.lc _ _ (hD.keep (S:=fun _=>False) ((zkb BW).alloc (.cells #[.int .i64 d.kind,.int .i64 d.n,.string d.s,.slice d.la d.ln d.lc] 39)) (fun _ _ f=>f)) (HE.out.2.2.2.1 x (zmg hx)) _ rfl)
   generalize checkL x=cl at*
   have HX:=zh4 hce hgk hB BW
   clear hce hgk hB BW hel hD hx hdr
   go_wp2_with fail
   refine CK.out.mono ?_
   rintro e w5 ⟨rfl,hB5⟩
   have H5:=zhd (show Below wr.heap.size wr w5 from(zal).trans (hB5.mono (by simp)))
   clear hB5 CK
   cases hz:(cl !=0)with
   |true=>
    have hr:=HE.out.2.2.2.2
    have hc:=HX.out.1
    rw[hz]at hc
    simp only[cond_true]at hc
    rw[←hc,hz]at hr
    simp only[cond_true]at hr
    have HR:=zhd hr
    clear hr hc
    go_wp2_with fail
    go_ret
    exact⟨by rw[←HR.out];rfl,HX.out.2.2.2.trans (H5.out.mono HX.out.2.2.2.size)⟩
   |false=>
    have hc:=HX.out.1
    rw[hz]at hc
    simp only[cond_false]at hc
    have HC:=zhd hc
    clear hc
    go_wp2_with fail
    go_roundg (p.consts.length - (i+1))
    case measure=>have:=HX.out.2.1;have:=HL.out.2.1;omega
    case rel=>exact⟨i+1,by simp,by have:=HL.out.2.1;omega,rfl,HC.out,HX.out.2.2.1.trans (H5.out.mono szr)⟩
  ·obtain rfl:i=kn:=by have:=HL.out.2.1;omega
   have hdn:p.consts.drop i=[]:=List.drop_eq_nil_of_le (by have:=HL.out.2.1;omega)
   rw[hdn,constErr]at hce
   have hr:=HE.out.2.2.2.2
   rw[←hce]at hr
   simp only[bne_self_eq_false,cond_false]at hr
   have HR1:=zhd hr
   have lt1:w.heap.size<w0.heap.size:=by have:=H0.out.2.2;omega
   have q0:=(hB.cell (p:=⟨w.heap.size,0,none⟩) lt1).trans (H0.out.2.1 0)
   have q1:=(hB.cell (p:=⟨w.heap.size,1,none⟩) lt1).trans (H0.out.2.1 1)
   have q2:=(hB.cell (p:=⟨w.heap.size,2,none⟩) lt1).trans (H0.out.2.1 2)
   have q3:=(hB.cell (p:=⟨w.heap.size,3,none⟩) lt1).trans (H0.out.2.1 3)
   simp only[List.getElem?_toArray,List.getElem?_cons_zero,List.getElem?_cons_succ]at q0 q1 q2 q3
   have ltr:w.heap.size<wr.heap.size:=by omega
   have HBW:=zhd BW
   obtain⟨wm,hwm⟩:∃wm,wm=wr:=⟨_,rfl⟩
   rw[←hwm]at q0 q1 q2 q3 ltr HBW⊢
   clear hr hce hgk hdn hB BW hin hi hwm szr
   go_wp2_with fail
   go_loopg [59] (p.names.length) (fun gk v59 wr=>∃i:Nat,v59= .int .i64 i∧i≤p.names.length∧gk=p.names.length - i∧nameErr (p.names.drop i)=nameErr p.names∧wr=wm)
   case atStart=>exact⟨0,rfl,Nat.zero_le _,rfl,rfl,rfl⟩
   case round=>
    obtain⟨j,rfl,hj,hgk,hne,hwr⟩:=hrel
    subst hwr
    by_cases hjn:j<nn
    ·obtain⟨x,hx⟩:=elem_at (l:=p.names) (k:=j) (by have:=HL.out.2.2;omega)
     have hdr:p.names.drop j=x::p.names.drop (j+1):=by
      rw[List.drop_eq_getElem_cons (zge hx).1,(zge hx).2]
     rw[hdr,nameErr]at hne
     obtain⟨g,off,ha,hel⟩:=HE.out.2.2.1
     obtain⟨hFg,hg,hcs⟩:=hel j x hx
     have ha:=ha.resolve_right (fun e=>by rw[e]at hx;simp at hx)
     subst ha
     have m0:=hcs 0 _ rfl
     rw[show off+(j*sz ByteArray+0)=off+j from by simp[Cells.sz]]at m0
     rw[←HBW.out.cell (p:=⟨g,_,none⟩) hg]at m0
     have hjn':(j:Int)<nn:=by omega
     cases hz:decide (64<x.size)with
     |true=>
      have h5:(64:Int)<x.size:=by have:=of_decide_eq_true hz;omega
      rw[hz]at hne
      simp only[cond_true]at hne
      have hr:=HR1.out
      rw[←hne]at hr
      have HR:=zhd hr
      clear hr hne hgk hdr hx hcs hel hz
      go_wp2_with fail
      go_ret
      exact⟨by rw[←HR.out];rfl,HBW.out⟩
     |false=>
      have h5:¬(64:Int)<x.size:=by have:=of_decide_eq_false hz;omega
      rw[hz]at hne
      simp only[cond_false]at hne
      have HX:=zh2 hne hgk
      clear hne hgk hdr hx hcs hel hz
      go_wp2_with fail
      go_roundg (p.names.length - (j+1))
      case measure=>have:=HX.out.2;have:=HL.out.2.2;omega
      case rel=>exact⟨j+1,by simp,by have:=HL.out.2.2;omega,rfl,HX.out.1,rfl⟩
    ·obtain rfl:j=nn:=by have:=HL.out.2.2;omega
     have hdn:p.names.drop j=[]:=List.drop_eq_nil_of_le (by have:=HL.out.2.2;omega)
     rw[hdn,nameErr]at hne
     have hr:=HR1.out
     rw[←hne]at hr
     simp only[bne_self_eq_false,cond_false]at hr
     have HR2:=zhd hr
     clear hr hne hgk hdn hjn hj
     obtain⟨wm,hwm⟩:∃wm,wm=wr:=⟨_,rfl⟩
     rw[←hwm]at q0 q1 q2 q3 ltr HBW⊢
     clear hwm
     go_wp2_with fail
     go_loopg [70] (p.code.length) (fun gk v70 wr=>∃i:Nat,v70= .int .i64 i∧i≤p.code.length∧gk=p.code.length - i∧codeErr p (p.code.drop i)=r∧Below wm.heap.size wm wr)
     case atStart=>exact⟨0,rfl,Nat.zero_le _,rfl,HR2.out,Below.refl _ _⟩
     case round=>
      obtain⟨k,rfl,hk,hgk,hce,hB⟩:=hrel
      have szr:=hB.size
      have ltk:w.heap.size<wr.heap.size:=by omega
      have BW:=HBW.out.trans (hB.mono (Nat.le_of_lt ltr))
      rw[←hB.cell (p:=⟨w.heap.size,_,none⟩) ltr]at q0 q1 q2 q3
      by_cases hkn:k<cn
      ·obtain⟨c,hx⟩:=elem_at (l:=p.code) (k:=k) (by have:=HL.out.1;omega)
       have hdr:p.code.drop k=c::p.code.drop (k+1):=by
        rw[List.drop_eq_getElem_cons (zge hx).1,(zge hx).2]
       rw[hdr,codeErr]at hce
       obtain⟨g,off,ha,hel⟩:=HE.out.1
       obtain⟨hFg,hg,hcs⟩:=hel k c hx
       have ha:=ha.resolve_right (fun e=>by rw[e]at hx;simp at hx)
       subst ha
       have m0:=hcs 0 _ rfl
       have m1:=hcs 1 _ rfl
       rw[show off+(k*sz In+0)=off+k*2 from rfl,←BW.cell (p:=⟨g,_,none⟩) hg]at m0
       rw[show off+(k*sz In+1)=off+k*2+1 from rfl,←BW.cell (p:=⟨g,_,none⟩) hg]at m1
       have hkn':(k:Int)<cn:=by omega
       obtain⟨inf,ok,hof⟩:∃inf ok,ofL c.op=(inf,ok):=⟨_,_,rfl⟩
       have OF:=zhd (show∀W,Calls Tryz.prog 73 #[.int .i64 c.op] W (fun e w'=>e= .returned (.tuple #[.agg #[.string inf.name,.int .i64 inf.operand,.int .i64 inf.i,.int .i64 inf.o,.bool inf.blocks,.bool inf.ends,.bool inf.flow],.bool ok])∧Below W.heap.size W w')from fun W=>(of_any c.op W).mono fun e w' ⟨j1,j2⟩=>⟨by rw[j1,hof];rfl,j2⟩)
       rw[hof]at hce
       obtain⟨cop,cav⟩:=c
       dsimp only at m0 m1 OF hce hof
       have HX:=zh3 hgk hB BW
       have HCE:=zhd hce
       clear hgk hB BW hcs hel hdr hx hce hof
       go_wp2_with fail
       refine(OF.out _).mono ?_
       rintro e w5 ⟨rfl,hB5⟩
       have lt5:wr.heap.size<w5.heap.size:=by have:=hB5.size;simp at this;omega
       have i0:w5.cell? ⟨wr.heap.size,0,none⟩=some (.int .i64 cop):=by rw[hB5.cell (p:=⟨wr.heap.size,0,none⟩) (by simp),zch (heap_alloc_new _ _)];rfl
       have i1:w5.cell? ⟨wr.heap.size,1,none⟩=some (.int .i64 cav):=by rw[hB5.cell (p:=⟨wr.heap.size,1,none⟩) (by simp),zch (heap_alloc_new _ _)];rfl
       have B5:Below wr.heap.size wr w5:=((Below.refl _ _).alloc (Nat.le_refl _) (.cells #[.int .i64 cop,.int .i64 cav] 43)).trans (hB5.mono (by simp))
       have HB5:=zhd B5
       clear hB5 OF
       cases ok with
       |false=>
        have hc:=HCE.out
        simp only[Bool.not_false,cond_true]at hc
        have HR:=zhd hc
        clear hc B5
        go_wp2_with fail
        go_ret
        exact⟨by rw[←HR.out];rfl,(HX.out.2.2.trans (HB5.out.mono HX.out.2.2.size)).alloc (by have:=HX.out.2.2.size;omega) _⟩
       |true=>
        have hc:=HCE.out
        simp only[Bool.not_true,cond_false]at hc
        obtain⟨w6,hw6⟩:∃w6,w6=w5.alloc (.cells #[.string inf.name,.int .i64 inf.operand,.int .i64 inf.i,.int .i64 inf.o,.bool inf.blocks,.bool inf.ends,.bool inf.flow] 148):=⟨_,rfl⟩
        have B6:Below wr.heap.size wr w6:=by rw[hw6];exact B5.alloc (by omega) _
        have sz6:w5.heap.size<w6.heap.size:=by rw[hw6];simp
        have u1:w6.cell? ⟨w5.heap.size,1,none⟩=some (.int .i64 inf.operand):=by rw[hw6,zch (heap_alloc_new _ _)];rfl
        have i1:w6.cell? ⟨wr.heap.size,1,none⟩=some (.int .i64 cav):=by rw[hw6];exact(World.cell?_of_block (w:=w5) (Below.heap_alloc _ _ _ lt5)).trans i1
        rw[←B6.cell (p:=⟨w.heap.size,_,none⟩) ltk]at q0 q1 q2 q3
        have lt6:w.heap.size<w6.heap.size:=by omega
        have lt7:wr.heap.size<w6.heap.size:=by omega
        have HB6:=zhd (HX.out.2.2.trans (B6.mono HX.out.2.2.size))
        have HBr:=zhd (HX.out.2.1.trans (B6.mono szr))
        go_wp2_with fail
        rw[←hw6]
        clear hw6 B5 B6 HB5
        cases hneg:decide (cav<0)with
        |true=>
         rw[hneg]at hc
         simp only[Bool.true_or,cond_true]at hc
         have HR:=zhd hc
         have h6:cav<0:=of_decide_eq_true hneg
         clear hc
         refine wp_region_ext (by kernel_rfl) (by kernel_rfl) ?_
         repeat(go_big_quiet_step (fail))
         refine wpQuiet_nil ?_
         intro w7 hB7
         go_wp2_with fail
         go_ret
         exact⟨by rw[←HR.out];rfl,HB6.out.trans (hB7.mono HB6.out.size)⟩
        |false=>
         rw[hneg]at hc
         simp only[Bool.false_or]at hc
         have h6:¬cav<0:=of_decide_eq_false hneg
         have MO:=zhd (fun W (hW:Below w6.heap.size w6 W)=>most_any _ W ⟨some ⟨g,off,none⟩,cn,cc,ka,i,kc,na,j,nc,pl⟩ p inf.operand (HI.out.keep (S:=fun _=>False) (zkb (HB6.out.trans (hW.mono HB6.out.size))) (fun _ _ f=>f)))
         generalize mostL p inf.operand=mo at*
         cases hge:decide (mo≤cav)with
         |true=>
          rw[hge]at hc
          simp only[cond_true]at hc
          have HR:=zhd hc
          have h7:mo≤cav:=of_decide_eq_true hge
          clear hc hneg hge
          refine wp_region_ext (by kernel_rfl) (by kernel_rfl) ?_
          repeat(go_big_quiet_step ((go_at_call 88;exact ext_call (MO.out _ (Subtype.property _)))))
          refine wpQuiet_nil ?_
          intro w7 hB7
          go_wp2_with fail
          go_ret
          exact⟨by rw[←HR.out];rfl,HB6.out.trans (hB7.mono HB6.out.size)⟩
         |false=>
          rw[hge]at hc
          simp only[cond_false]at hc
          have HR:=zhd hc
          have h7:¬mo≤cav:=of_decide_eq_false hge
          clear hc hneg hge
          refine wp_region_ext (by kernel_rfl) (by kernel_rfl) ?_
          repeat(go_big_quiet_step ((go_at_call 88;exact ext_call (MO.out _ (Subtype.property _)))))
          refine wpQuiet_nil ?_
          intro w7 hB7
          go_wp2_with fail
          go_roundg (p.code.length - (k+1))
          case measure=>have:=HX.out.1;have:=HL.out.1;omega
          case rel=>exact⟨k+1,by simp,by have:=HL.out.1;omega,rfl,HR.out,HBr.out.trans (hB7.mono HBr.out.size)⟩
      ·obtain rfl:k=cn:=by have:=HL.out.1;omega
       have hdn:p.code.drop k=[]:=List.drop_eq_nil_of_le (by have:=HL.out.1;omega)
       rw[hdn,codeErr]at hce
       have HR:=zhd hce
       have HBE:=zhd BW
       clear hce hgk hB BW
       go_wp2_with fail
       go_ret
       exact⟨by rw[←HR.out];rfl,HBE.out⟩
theorem imgcheck_any
 (F:Nat→Prop)(w:World)(i:IC)(p:Img)(H:IAt F w i p)(r:Int)
 (hw:∀x∈p.consts,x.wf)(hr:imgL p=r):
 Calls Tryz.prog 36 #[.agg #[.slice i.ca i.cn i.cc,.slice i.ka i.kn i.kc,.slice i.na i.nn i.nc,.int .i64 i.pl]] w fun e w'=>e= .returned (.int .i64 r)∧Below w.heap.size w w'
 :=by
 unfold imgL at hr
 by_cases h0:p.code.length=0
 ·rw[decide_eq_true h0]at hr
  exact check_short F w i p H r h0 hr.symm
 ·rw[decide_eq_false h0]at hr
  simp only[cond_false]at hr
  by_cases h1:512<p.code.length∨64<p.consts.length∨32<p.names.length
  ·have e:(decide (512<p.code.length)||(decide (64<p.consts.length)||decide (32<p.names.length)))=true:=by simpa using h1
   rw[e]at hr
   exact check_long F w i p H r h0 h1 hr.symm
  ·have e:(decide (512<p.code.length)||(decide (64<p.consts.length)||decide (32<p.names.length)))=false:=by
    rw[Bool.eq_false_iff]
    exact fun h=>h1 (by simpa using h)
   rw[e]at hr
   simp only[cond_false]at hr
   by_cases h2:p.places<0∨16<p.places
   ·have e:(decide (p.places<0)||decide (16<p.places))=true:=by simpa using h2
    rw[e]at hr
    exact check_places F w i p H r h0 (by omega) h2 hr.symm
   ·have e:(decide (p.places<0)||decide (16<p.places))=false:=by
     rw[Bool.eq_false_iff]
     exact fun h=>h2 (by simpa using h)
    rw[e]at hr
    exact check_rest F w i p H r hw h0 (by omega) (by omega) hr
end Go.Proofs.YtakljipkaoahnaaGreatDoor
namespace Go.Proofs
open Go.Shelf
def Tryz.lays156_ren:Go.Shelf.Ren:=⟨fun|156=>112|165=>148|166=>72|169=>78|240=>110|241=>170|276=>147|277=>184|n=>n,fun|31=>25|9=>9|3=>3|4=>4|0=>0|20=>20|72=>142|76=>145|70=>139|37=>140|75=>144|127=>190|164=>215|5=>5|80=>69|n=>n,fun|n=>n⟩
theorem Tryz.lays156:Go.Proofs.Lays.n156 Tryz.prog Tryz.lays156_ren:={
 mixed:=by kernel_rfl
 f156:=Tryz.func112.trans (congrArg some (by kernel_rfl))
 f165:=Tryz.func148.trans (congrArg some (by kernel_rfl))
 f166:=Tryz.func72.trans (congrArg some (by kernel_rfl))
 f169:=Tryz.func78.trans (congrArg some (by kernel_rfl))
 f240:=Tryz.func110.trans (congrArg some (by kernel_rfl))
 f241:=Tryz.func170.trans (congrArg some (by kernel_rfl))
 f276:=Tryz.func147.trans (congrArg some (by kernel_rfl))
 f277:=Tryz.func184.trans (congrArg some (by kernel_rfl))
 t0:=Tryz.underlying0
 a0:=Tryz.isAgg0
 z0:=Tryz.sizeOf0
 v0:=Tryz.zeroValue0
 t3:=Tryz.underlying3
 a3:=Tryz.isAgg3
 z3:=Tryz.sizeOf3
 v3:=Tryz.zeroValue3
 t4:=Tryz.underlying4
 a4:=Tryz.isAgg4
 z4:=Tryz.sizeOf4
 v4:=Tryz.zeroValue4
 t9:=Tryz.underlying9
 a9:=Tryz.isAgg9
 z9:=Tryz.sizeOf9
 v9:=Tryz.zeroValue9
 t20:=Tryz.underlying20
 a20:=Tryz.isAgg20
 z20:=Tryz.sizeOf20
 v20:=Tryz.zeroValue20
 t31:=Tryz.underlying25
 a31:=Tryz.isAgg25
 z31:=Tryz.sizeOf25
 v31:=Tryz.zeroValue25
 t37:=Tryz.underlying140
 a37:=Tryz.isAgg140
 z37:=Tryz.sizeOf140
 v37:=Tryz.zeroValue140
 t70:=Tryz.underlying139
 a70:=Tryz.isAgg139
 z70:=Tryz.sizeOf139
 v70:=Tryz.zeroValue139
 t72:=Tryz.underlying142
 a72:=Tryz.isAgg142
 z72:=Tryz.sizeOf142
 v72:=Tryz.zeroValue142
 t75:=Tryz.underlying144
 a75:=Tryz.isAgg144
 z75:=Tryz.sizeOf144
 v75:=Tryz.zeroValue144
 t76:=Tryz.underlying145
 a76:=Tryz.isAgg145
 z76:=Tryz.sizeOf145
 v76:=Tryz.zeroValue145
 t127:=Tryz.underlying190
 a127:=Tryz.isAgg190
 z127:=Tryz.sizeOf190
 v127:=Tryz.zeroValue190
 t164:=Tryz.underlying215
 a164:=Tryz.isAgg215
 z164:=Tryz.sizeOf215
 v164:=Tryz.zeroValue215}
end Go.Proofs
namespace Go.Va
open Go.Own Go.RowKit
structure SK (b:Nat)(w w':World):Prop where
 below:Below b w w'
 kept:Lib.OthersKept 5 (some b) w w'
end Go.Va
namespace Go.Proofs.YtakljipkaoahnaaGreatDoor
open Go.RowKit Go.Own Go.Own.MapTy Go.Va Go.Sort
open Go.Own.Cells (sz enc)
def SB (b:Nat)(l:List UInt8)(w:World):Prop:=Lib.IsBuilder 142 5 b b (Lib.byteCells l) w
end Go.Proofs.YtakljipkaoahnaaGreatDoor
namespace Go.Va
open Go.Own Go.RowKit
def hexD (n:Nat):UInt8:=if n<10 then UInt8.ofNat (48+n)else UInt8.ofNat (87+n)
def escL (c:UInt8):List UInt8:=if c.toNat=34∨c.toNat=92 then[92,c]else if c.toNat<32∨126<c.toNat then[92,120,hexD (c.toNat/16),hexD (c.toNat%16)]else[c]
def quoteL (s:List UInt8):List UInt8:=34::(s.flatMap escL++[34])
theorem escL_len (c:UInt8):(escL c).length≤4:=by
 unfold escL
 split
 ·simp
 ·split<;>simp
theorem quoteL_take {s:ByteArray}{k:Nat}(h:k<s.size):(34::(s.data.toList.take (k+1)).flatMap escL)=(34::(s.data.toList.take k).flatMap escL)++escL s[k]:=by
 have h':k<s.data.toList.length:=by simpa using h
 rw[List.take_succ_eq_append_getElem h',List.flatMap_append]
 simp
 rfl
theorem esc_all (l:List UInt8):(l.flatMap escL).length≤4*l.length:=by
 induction l with
 |nil=>simp
 |cons c r ih=>have:=escL_len c;simp[List.flatMap_cons];simp at ih;omega
def QtRel (w:World)(s:ByteArray)(k:Nat)(v3 v4:Value)(wr:World):Prop:=
 v4= .int .i64 k∧k≤s.size∧Hid (RowAt wr 5 v3 (34::(s.data.toList.take k).flatMap escL)∧Below w.heap.size w wr∧∀g,v3.ownBlock=some g→w.heap.size≤g)
theorem QtRel.app {w wx w6:World}{s:ByteArray}{k:Nat}{v3 v6:Value}{o:Obj}(h:Hid (RowAt wx 5 v3 (34::(s.data.toList.take k).flatMap escL)∧Below w.heap.size w wx∧∀g,v3.ownBlock=some g→w.heap.size≤g))(hk:k<s.size)
 {ys:List UInt8}(hy:escL s[k]=ys)(hr:RowAt w6 5 v6 ((34::(s.data.toList.take k).flatMap escL)++ys))(hk6:Keeps (fun j=>v3.ownBlock=some j) (wx.alloc o) w6)(hf6:∀g,v6.ownBlock=some g→v3.ownBlock=some g∨(wx.alloc o).heap.size≤g):
 QtRel w s (k+1) v6 (.int .i64 ((k:Int)+1)) w6:=by
 obtain⟨hR,hB,hO⟩:=h.out
 have hsz:=hB.size
 refine⟨by simp,hk,zhd ⟨by rw[quoteL_take hk,hy];exact hr,?_,fun g hg=> ?_⟩⟩
 ·exact((hB.alloc (by omega) o).trans (hk6.below (by simp;omega) (fun j hj e=>by have:=hO j e;omega)))
 ·rcases hf6 g hg with e|e
  ·exact hO g e
  ·have e':wx.heap.size+1≤g:=by simpa using e
   omega
end Go.Va
namespace Go.Proofs.YtakljipkaoahnaaGreatDoor
open Go.RowKit Go.Own Go.Own.MapTy Go.Va Go.Sort
open Go.Own.Cells (sz enc)
theorem news2 {w:World}{x y:UInt8}{m n:Int}{t:TypeId}(h1:m=(x.toNat:Int))(h2:n=(y.toNat:Int)):∀j u,(([x,y]:List UInt8).flatMap Cells.enc)[j]? =some u→(w.alloc (.cells #[.int .u8 m,.int .u8 n] t)).cell? ((⟨w.heap.size,0,none⟩:Addr).add j)=some u:=by
 intro j u hu
 rw[Addr.add_lit,zch (heap_alloc_new w _),Nat.zero_add,h1,h2]
 match j,hu with
 |0,hu=>simpa[Cells.enc]using hu
 |1,hu=>simpa[Cells.enc]using hu
theorem wp_appN {W:World}{ops:Array Oper}{rest:List Oper}{o:Oper}{a:Act}{Q:Exit→Act→World→Prop}(hg:o.guard=none)(s x:Operand)
 (hop:o.op=Op.call {callee:=Callee.builtin Builtin.append,args:=#[s,x],argTypes:=#[140,140]})
 {l:List UInt8}{v:Value}(ho:RowAt W 5 v l)(hs:a.eval s=v)
 (ad:Addr)(c n:Nat)(ys:List UInt8)(hx:a.eval x= .slice (some ad) n c)(hn:n=ys.length)(hc:∀j u,(ys.flatMap Cells.enc)[j]? =some u→W.cell? (ad.add j)=some u)(N:Nat)(hN:N=l.length+ys.length∧N≤1099511627776)
 (hK:∀a1 q1 w',RowAt w' 5 (.slice a1 N q1) (l++ys)→Keeps (fun j=>v.ownBlock=some j) W w'→(∀g,(Value.slice a1 N q1).ownBlock=some g→v.ownBlock=some g∨W.heap.size≤g)→wpList Tryz.prog ops Q rest (a.put o.dst (.slice a1 N q1)) w'):wpList Tryz.prog ops Q (o::rest) a W:=by
 obtain⟨rfl,hN2⟩:=hN
 subst hn
 exact wp_appL hg s x hop ho hs ad c ys hx hc hN2 hK
theorem lit4 {w:World}{x y z v:UInt8}{m n o p:Int}{t:TypeId}(h1:m=(x.toNat:Int))(h2:n=(y.toNat:Int))(h3:o=(z.toNat:Int))(h4:p=(v.toNat:Int)):RowAt (w.alloc (.cells #[.int .u8 m,.int .u8 n,.int .u8 o,.int .u8 p] t)) t (.slice (some ⟨w.heap.size,0,none⟩) 4 4) [x,y,z,v]:=by
 refine .inr ⟨w.heap.size,0,4,_,rfl,heap_alloc_new _ _,Nat.le_refl _,by unfold maxLen;omega,Nat.le_refl _,?_⟩
 intro j u hu
 rw[Nat.zero_add,h1,h2,h3,h4]
 match j,hu with
 |0,hu=>simpa[Cells.enc]using hu
 |1,hu=>simpa[Cells.enc]using hu
 |2,hu=>simpa[Cells.enc]using hu
 |3,hu=>simpa[Cells.enc]using hu
theorem and15 (c:UInt8):bits BinOp.and IntKind.u8 (c.toNat:Int) 15=(c.toNat:Int)%16:=by
 have h:∀k:Fin 256,bits BinOp.and IntKind.u8 (k.val:Int) 15=(k.val:Int)%16:=by decide+kernel
 exact h ⟨c.toNat,c.toNat_lt⟩
def hexs:ByteArray:=⟨#[48,49,50,51,52,53,54,55,56,57,97,98,99,100,101,102]⟩
theorem hex_at:∀m:Fin 16,(hexs[m.val]'(by exact m.isLt))=hexD m.val:=by decide+kernel
theorem run_hex (W:World)(i:Int)(m:Nat)(h:i=(m:Int))(hm:m<16):(Instr.index 9 (.string hexs) (.int .u8 i)).run Tryz.prog W= .ok (.int .u8 (hexD m).toNat) W:=by
 subst h
 rw[run_index_string (P:=Tryz.prog) W 9 hexs .u8 (m:Int) Tryz.underlying9]
 rw[dif_pos ⟨by omega,by show(m:Int)<16;omega⟩]
 exact congrArg (fun c:UInt8=>Result.ok (Value.int .u8 (c.toNat:Int)) W) (hex_at ⟨m,hm⟩)
theorem quote_any (s:ByteArray)(w:World)(hs:s.size≤4294967280):
 Calls Tryz.prog 75 #[.string s] w fun e w'=>e= .returned (.string ⟨(quoteL s.data.toList).toArray⟩)∧Below w.heap.size w w':=by
 go_enter Tryz.func75,Tryz.ntmps75
 go_wp2_with fail
 go_loopg [3,4] (s.size) (fun gk v3 v4 wr=>∃k,gk=s.size - k∧QtRel w s k v3 v4 wr)
 case atStart=>
  refine⟨0,rfl,rfl,Nat.zero_le _,zhd ⟨RowAt.lit (α:=UInt8) (y:=34) (heap_alloc_new _ _),zal,fun g hg=>by simp[Value.ownBlock]at hg;omega⟩⟩
 case round=>
  obtain⟨k,hgk,rfl,hk,HR⟩:=hrel
  obtain⟨a3,c3,rfl⟩:=HR.out.1.slice
  have HG:=zhd hgk
  obtain⟨n0,hn0⟩:∃n0,n0=(34::(s.data.toList.take k).flatMap escL).length:=⟨_,rfl⟩
  rw[←hn0]at HR⊢
  clear hgk hn0
  by_cases hkn:k<s.size
  ·have e0:(k:Int)<s.size:=by omega
   have hw:wrap64 ((k:Int)+1)=(k:Int)+1:=by unfold wrap64;omega
   by_cases h34:s[k].toNat=34
   ·
    have HC:=zhd (show escL s[k]=[92,34]from by unfold escL;rw[if_pos (by omega)];rw[show s[k]=34 from UInt8.toNat_inj.1 h34])
    obtain⟨N,hN⟩:∃N,N=(34::(s.data.toList.take k).flatMap escL).length+([92,34]:List UInt8).length:=⟨_,rfl⟩
    have HL:=zhd (show N=(34::(s.data.toList.take k).flatMap escL).length+([92,34]:List UInt8).length∧N≤1099511627776 from⟨hN,by have:=esc_all (s.data.toList.take k);simp at this hN⊢;omega⟩)
    clear hN
    go_wp2_with (at_builtin;go_must (refine wp_appN rfl (.tmp 27) (.tmp 29) rfl (HR.out.1.alloc _) rfl ⟨wr.heap.size,0,none⟩ 2 2 [92,34] rfl rfl (news2 rfl rfl) N HL.out ?_);intro a1 q1 w' hr' hk' hf')
    go_roundg (s.size - (k+1))
    case measure=>have:=HG.out;omega
    case rel=>exact⟨k+1,rfl,QtRel.app HR hkn HC.out hr' hk' hf'⟩
   ·by_cases h92:s[k].toNat=92
    ·
     have HC:=zhd (show escL s[k]=[92,92]from by unfold escL;rw[if_pos (by omega)];rw[show s[k]=92 from UInt8.toNat_inj.1 h92])
     obtain⟨N,hN⟩:∃N,N=(34::(s.data.toList.take k).flatMap escL).length+([92,92]:List UInt8).length:=⟨_,rfl⟩
     have HL:=zhd (show N=(34::(s.data.toList.take k).flatMap escL).length+([92,92]:List UInt8).length∧N≤1099511627776 from⟨hN,by have:=esc_all (s.data.toList.take k);simp at this hN⊢;omega⟩)
     clear hN
     go_wp2_with (at_builtin;go_must (refine wp_appN rfl (.tmp 27) (.tmp 29) rfl (HR.out.1.alloc _) rfl ⟨wr.heap.size,0,none⟩ 2 2 [92,92] rfl rfl (news2 rfl rfl) N HL.out ?_);intro a1 q1 w' hr' hk' hf')
     go_roundg (s.size - (k+1))
     case measure=>have:=HG.out;omega
     case rel=>exact⟨k+1,rfl,QtRel.app HR hkn HC.out hr' hk' hf'⟩
    ·have n1:((s[k].toNat:Int)==34)=false:=by rw[beq_eq_false_iff_ne];omega
     have n2:((s[k].toNat:Int)==92)=false:=by rw[beq_eq_false_iff_ne];omega
     by_cases hb:s[k].toNat<32∨126<s[k].toNat
     ·
      have HC:=zhd (show escL s[k]=[92,120,hexD (s[k].toNat/16),hexD (s[k].toNat%16)]from by unfold escL;rw[if_neg (by omega),if_pos hb])
      obtain⟨N,hN⟩:∃N,N=(34::(s.data.toList.take k).flatMap escL).length+([92,120,hexD (s[k].toNat/16),hexD (s[k].toNat%16)]:List UInt8).length:=⟨_,rfl⟩
      have HL:=zhd (show N=(34::(s.data.toList.take k).flatMap escL).length+([92,120,hexD (s[k].toNat/16),hexD (s[k].toNat%16)]:List UInt8).length∧N≤1099511627776 from⟨hN,by have:=esc_all (s.data.toList.take k);simp at this hN⊢;omega⟩)
      clear hN
      by_cases hlo:s[k].toNat<32
      ·have e1:((s[k].toNat:Int)<32):=by omega
       have R1:=fun W=>run_hex W ((s[k].toNat:Int)/16) (s[k].toNat/16) (by omega) (by have:=s[k].toNat_lt;omega)
       have R2:=fun W=>run_hex W ((s[k].toNat:Int)%16) (s[k].toNat%16) (by omega) (by omega)
       have d5:bits BinOp.and IntKind.u8 (s[k].toNat:Int) 15=(s[k].toNat:Int)%16:=and15 _
       unfold hexs at R1 R2
       obtain⟨x1,hx1⟩:∃x1,x1=hexD (s[k].toNat/16):=⟨_,rfl⟩
       obtain⟨x2,hx2⟩:∃x2,x2=hexD (s[k].toNat%16):=⟨_,rfl⟩
       rw[←hx1,←hx2]at HC HL
       rw[←hx1]at R1
       rw[←hx2]at R2
       clear hx1 hx2
       go_wp2_with fail
       go_region_law ((refine step_apps (α:=UInt8) (o:=⟨some 46,_,_,_,_,_⟩) elemB (by rfl) (.tmp 38) (.tmp 45) (by rfl) (v:=.slice a3 n0 c3) (u:=.slice (some ⟨wr.heap.size,0,none⟩) 4 4) (by rfl) (by rfl) (xs:=34::(s.data.toList.take k).flatMap escL) (ys:=[92,120,x1,x2]) ((HR.out.1.drew).alloc _) (lit4 rfl rfl rfl rfl) (by have:=HL.out;omega) (by have:=HL.out;unfold maxLen;omega) N HL.out.1.symm ?_;intro a1 q1 w' hr' hk' hf'))
       all_goals
        go_wp2_with fail
        go_roundg (s.size - (k+1))
        case measure=>have:=HG.out;omega
        case rel=>exact⟨k+1,rfl,QtRel.app (wx:=wr.drew) (zhd ⟨HR.out.1.drew,HR.out.2.1.drew,HR.out.2.2⟩) hkn HC.out hr' hk' hf'⟩
      ·have e1:¬((s[k].toNat:Int)<32):=by omega
       have e2:((126:Int)<(s[k].toNat:Int)):=by omega
       have R1:=fun W=>run_hex W ((s[k].toNat:Int)/16) (s[k].toNat/16) (by omega) (by have:=s[k].toNat_lt;omega)
       have R2:=fun W=>run_hex W ((s[k].toNat:Int)%16) (s[k].toNat%16) (by omega) (by omega)
       have d5:bits BinOp.and IntKind.u8 (s[k].toNat:Int) 15=(s[k].toNat:Int)%16:=and15 _
       unfold hexs at R1 R2
       obtain⟨x1,hx1⟩:∃x1,x1=hexD (s[k].toNat/16):=⟨_,rfl⟩
       obtain⟨x2,hx2⟩:∃x2,x2=hexD (s[k].toNat%16):=⟨_,rfl⟩
       rw[←hx1,←hx2]at HC HL
       rw[←hx1]at R1
       rw[←hx2]at R2
       clear hx1 hx2
       go_wp2_with fail
       go_region_law ((refine step_apps (α:=UInt8) (o:=⟨some 46,_,_,_,_,_⟩) elemB (by rfl) (.tmp 38) (.tmp 45) (by rfl) (v:=.slice a3 n0 c3) (u:=.slice (some ⟨wr.heap.size,0,none⟩) 4 4) (by rfl) (by rfl) (xs:=34::(s.data.toList.take k).flatMap escL) (ys:=[92,120,x1,x2]) ((HR.out.1.drew).alloc _) (lit4 rfl rfl rfl rfl) (by have:=HL.out;omega) (by have:=HL.out;unfold maxLen;omega) N HL.out.1.symm ?_;intro a1 q1 w' hr' hk' hf'))
       all_goals
        go_wp2_with fail
        go_roundg (s.size - (k+1))
        case measure=>have:=HG.out;omega
        case rel=>exact⟨k+1,rfl,QtRel.app (wx:=wr.drew) (zhd ⟨HR.out.1.drew,HR.out.2.1.drew,HR.out.2.2⟩) hkn HC.out hr' hk' hf'⟩
     ·have e1:¬((s[k].toNat:Int)<32):=by omega
      have e2:¬((126:Int)<(s[k].toNat:Int)):=by omega
      have HC:=zhd (show escL s[k]=[s[k]]from by unfold escL;rw[if_neg (by omega),if_neg hb])
      obtain⟨N,hN⟩:∃N,N=(34::(s.data.toList.take k).flatMap escL).length+([s[k]]:List UInt8).length:=⟨_,rfl⟩
      have HL:=zhd (show N=(34::(s.data.toList.take k).flatMap escL).length+([s[k]]:List UInt8).length∧N≤1099511627776 from⟨hN,by have:=esc_all (s.data.toList.take k);simp at this hN⊢;omega⟩)
      clear hN
      go_wp2_with (at_builtin;go_must (refine wp_appN rfl (.tmp 16) (.tmp 18) rfl (HR.out.1.alloc _) rfl ⟨wr.heap.size,0,none⟩ 1 1 [s[k]] rfl rfl (new_byteV _ _ _ _ rfl) N HL.out ?_);intro a1 q1 w' hr' hk' hf')
      go_roundg (s.size - (k+1))
      case measure=>have:=HG.out;omega
      case rel=>exact⟨k+1,rfl,QtRel.app HR hkn HC.out hr' hk' hf'⟩
  ·
   have e0:¬(k:Int)<s.size:=by omega
   have ek:k=s.size:=by omega
   have HE:=zhd (show s.data.toList.take k=s.data.toList from List.take_of_length_le (by simp;omega))
   obtain⟨N,hN⟩:∃N,N=(34::(s.data.toList.take k).flatMap escL).length+([34]:List UInt8).length:=⟨_,rfl⟩
   have HL:=zhd (show N=(34::(s.data.toList.take k).flatMap escL).length+([34]:List UInt8).length∧N≤1099511627776 from⟨hN,by have:=esc_all (s.data.toList.take k);simp at this hN⊢;omega⟩)
   clear hN
   clear ek
   go_wp2_with (at_builtin;go_must (refine wp_appN rfl (.tmp 47) (.tmp 48) rfl (HR.out.1.alloc _) rfl ⟨wr.heap.size,0,none⟩ 1 1 [34] rfl rfl (new_byteV _ _ _ _ rfl) N HL.out ?_);intro a1 q1 w' hr' hk' hf';have hcv:=run_str hr' 140 9 5 Tryz.underlying140 Tryz.underlying5 Tryz.underlying9)
   go_ret
   refine⟨by rw[HE.out];rfl,?_⟩
   have hsz:=HR.out.2.1.size
   exact((HR.out.2.1.alloc (by omega) _).trans (hk'.below (by simp;omega) (fun j hj e=>by have:=HR.out.2.2 j e;omega)))
end Go.Proofs.YtakljipkaoahnaaGreatDoor
