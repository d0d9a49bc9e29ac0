/- Parts of the proof: what the functions and the plain laws give that later parts lean on. Conditions: none beyond those that each theorem names. -/
import Derived.Test.YtakljipkaoahnaaGreatDoorA24
import Derived.Test.YtakljipkaoahnaaGreatDoorA29
set_option maxRecDepth 100000
set_option maxHeartbeats 8000000
namespace Go.Proofs.YtakljipkaoahnaaGreatDoor
open Go.RowKit Go.Own Go.Own.MapTy Go.Va Go.Sort
open Go.Own.Cells (sz enc)
theorem tdRun_bd:∀(l:List In) (c n p c1 n1 p1:Int),tdRun l c n p=some (c1,n1,p1)→c≤c1∧n≤n1∧p≤p1
 |[],c,n,p,c1,n1,p1,h=>by cases h;exact⟨Int.le_refl _,Int.le_refl _,Int.le_refl _⟩
 |x::r,c,n,p,c1,n1,p1,h=>by
  rw[tdRun]at h
  split at h
  ·split at h
   ·cases h
   ·have:=tdRun_bd r _ _ _ _ _ _ h
    split at this<;>omega
  ·split at h
   ·split at h
    ·cases h
    ·have:=tdRun_bd r _ _ _ _ _ _ h
     split at this<;>omega
   ·split at h
    ·have:=tdRun_bd r _ _ _ _ _ _ h
     split at this<;>omega
    ·exact tdRun_bd r _ _ _ _ _ _ h
def TLoop (w0:World)(p:Img)(gk:Nat)(v6 v3 v4 v5:Value)(wr:World):Prop:=
 ∃(i:Nat) (c n q:Int),v6= .int .i64 i∧v3= .int .i64 c∧v4= .int .i64 n∧v5= .int .i64 q∧i≤p.code.length∧gk=p.code.length - i∧0≤c∧0≤n∧0≤q∧Hid (tdRun (p.code.drop i) c n q=some ((p.consts.length:Int),(p.names.length:Int),p.places)∧Below w0.heap.size w0 wr)
theorem rtidy_walk (F:Nat→Prop)(w:World)(i:IC)(p:Img)(H:IAt F w i p)(h0:imgL p=0)(hw:∀x∈p.consts,x.wf)(T:TdOk p):
  Calls Tryz.prog 12 #[.agg #[.slice i.ca i.cn i.cc,.slice i.ka i.kn i.kc,.slice i.na i.nn i.nc,.int .i64 i.pl]] w fun e w'=>e= .returned (.bool true)∧Below w.heap.size w w':=by
 have b1:=(imgL_ok h0).2.1
 have b2:=(imgL_ok h0).2.2.1
 have b3:=(imgL_ok h0).2.2.2.1
 have b4:=(imgL_ok h0).2.2.2.2.1
 have b5:=(imgL_ok h0).2.2.2.2.2.1
 obtain⟨l1,l2,l3⟩:=H.lens
 have l4:=H.pl
 have hAt:=fun(c:In) (hc:c∈p.code)=>at_ok h0 hc
 have HI:=zh4 H hAt hw T
 obtain⟨ca,cn,cc,ka,kn,kc,na,nn,nc,pl⟩:=i
 dsimp only at l1 l2 l3 l4
 have HL:=zh4 l1 l2 l3 l4
 rw[←l1]at b1
 rw[←l2]at b2
 rw[←l3]at b3
 rw[←l4]at b4 b5
 clear H hAt hw T l1 l2 l3 l4 h0
 dsimp only
 go_enter Tryz.func12,Tryz.ntmps12
 go_wp2_with fail
 obtain⟨w0,hw0⟩:∃w0,w0=w.alloc (.cells #[.slice ca cn cc,.slice ka kn kc,.slice na nn nc,.int .i64 pl] 27):=⟨_,rfl⟩
 have B0:=zba hw0
 have X0:BoxI w0 w.heap.size ⟨ca,cn,cc,ka,kn,kc,na,nn,nc,pl⟩:=by rw[hw0];exact boxI_new w ⟨ca,cn,cc,ka,kn,kc,na,nn,nc,pl⟩
 rw[←hw0]
 have H0:=zh2 B0 X0
 clear hw0 B0 X0
 go_loopg [6,3,4,5] (p.code.length) (fun gk v6 v3 v4 v5 wr=>TLoop w0 p gk v6 v3 v4 v5 wr)
 case atStart=>exact⟨0,0,0,0,rfl,rfl,rfl,rfl,Nat.zero_le _,rfl,Int.le_refl _,Int.le_refl _,Int.le_refl _,zhd ⟨HI.out.2.2.2.run,Below.refl _ _⟩⟩
 case round=>
  obtain⟨i,c,n,q,rfl,rfl,rfl,rfl,hi,hgk,c0,n0,q0,HR⟩:=hrel
  have XB:=H0.out.2.below HR.out.2
  have k0:=XB.c0
  have k1:=XB.c1
  have k2:=XB.c2
  have k3:=XB.c3
  have lx:=XB.lt
  dsimp only at k0 k1 k2 k3
  have BW:=H0.out.1.trans (HR.out.2.mono H0.out.1.size)
  obtain⟨bc,bn,bq⟩:=tdRun_bd _ _ _ _ _ _ _ HR.out.1
  have bc:c≤64:=by have:=HL.out.2.1;omega
  have bn:n≤32:=by have:=HL.out.2.2.1;omega
  have bq:q≤16:=by have:=HL.out.2.2.2;omega
  clear XB
  by_cases hin:i<cn
  ·obtain⟨⟨op,a⟩,hx⟩:=elem_at (l:=p.code) (k:=i) (by have:=HL.out.1;omega)
   obtain⟨g,off,rfl,_,_,hg,m0,m1⟩:=HI.out.1.code_at BW hx
   dsimp only at m0 m1
   have hin':(i:Int)<cn:=by omega
   have htd:=HR.out.1
   rw[drop_get hx,tdRun]at htd
   dsimp only at htd
   obtain⟨ok,a0,aC,aN,aP,_,_,_⟩:=HI.out.2.1 _ (mem_of_get hx)
   dsimp only at ok a0 aC aN aP
   have hyes:=ok_range.1 ok
   have OP:=zhd (fun W=>operand_any op hyes.1 hyes.2 W)
   have hx1:i+1≤p.code.length:=lt_of_get hx
   have HBr:=zhd HR.out.2
   have hbd:=operand_bd6 op
   have a9:a≤1000:=by
    have h6:=(HI.out.2.1 _ (mem_of_get hx))
    dsimp only at h6
    obtain⟨_,_,hC,hN,hP,hT,hK,hO⟩:=h6
    have e1:=HL.out
    rcases hbd with e|e|e|e|e|e
    ·have:=hO e;omega
    ·obtain⟨x,hx⟩:=hC e;have:=lt_of_get hx;omega
    ·obtain⟨x,hx⟩:=hN e;have:=lt_of_get hx;omega
    ·have:=hP e;omega
    ·have:=hT e;omega
    ·have:=hK e;omega
   have haw:wrap64 (a+1)=a+1:=by unfold wrap64;omega
   have hcw:wrap64 (c+1)=c+1:=by unfold wrap64;omega
   have hnw:wrap64 (n+1)=n+1:=by unfold wrap64;omega
   have HAW:=zh3 haw hcw hnw
   generalize(ofL op).1.operand=k at*
   clear haw hcw hnw ok aC aN aP hyes
   go_wp2_with fail
   obtain⟨w6,hw6⟩:∃w6,w6=wr.alloc (.cells #[.int .i64 op,.int .i64 a] 43):=⟨_,rfl⟩
   have B6:=zba hw6
   have Y6:=zha hw6
   rw[←hw6]
   clear hw6
   refine(OP.out _).mono ?_
   rintro e w7 ⟨rfl,hB7⟩
   have Y7:=(hB7.block _ (zlt Y6)).trans Y6
   have u1:=zca Y7 1 rfl
   have ly:=zlt Y7
   have HX:=zh4 (B6.trans (hB7.mono B6.size)) htd hgk hx1
   clear B6 Y6 Y7 hB7 OP hx BW htd hgk hx1 HR
   rcases hbd with rfl|rfl|rfl|rfl|rfl|rfl
   ·have h5:=HX.out.2.1
    rw[if_neg (by decide),if_neg (by decide),if_neg (by decide)]at h5
    have HT:=zhd h5
    clear h5
    go_wp2_with fail
    go_roundg (p.code.length - (i+1))
    case measure=>have:=HX.out.2.2.1;have:=HX.out.2.2.2;omega
    case rel=>exact⟨i+1,c,n,q,by simp,rfl,rfl,rfl,HX.out.2.2.2,rfl,by omega,by omega,by omega,zhd ⟨HT.out,HBr.out.trans (HX.out.1.mono HBr.out.size)⟩⟩
   ·have h5:=HX.out.2.1
    rw[if_pos rfl]at h5
    by_cases hca:c<a
    ·rw[if_pos hca]at h5;cases h5
    ·rw[if_neg hca]at h5
     by_cases he:a=c
     ·subst he
      rw[if_pos rfl]at h5
      have HT:=zhd h5
      clear h5
      go_wp2_with fail
      go_roundg (p.code.length - (i+1))
      case measure=>have:=HX.out.2.2.1;have:=HX.out.2.2.2;omega
      case rel=>exact⟨i+1,(a+1),n,q,by simp,rfl,rfl,rfl,HX.out.2.2.2,rfl,by omega,by omega,by omega,zhd ⟨HT.out,HBr.out.trans (HX.out.1.mono HBr.out.size)⟩⟩
     ·rw[if_neg he]at h5
      have HT:=zhd h5
      have he2:(a==c)=false:=by simpa using he
      clear h5
      go_wp2_with fail
      go_roundg (p.code.length - (i+1))
      case measure=>have:=HX.out.2.2.1;have:=HX.out.2.2.2;omega
      case rel=>exact⟨i+1,c,n,q,by simp,rfl,rfl,rfl,HX.out.2.2.2,rfl,by omega,by omega,by omega,zhd ⟨HT.out,HBr.out.trans (HX.out.1.mono HBr.out.size)⟩⟩
   ·have h5:=HX.out.2.1
    rw[if_neg (by decide),if_pos rfl]at h5
    by_cases hca:n<a
    ·rw[if_pos hca]at h5;cases h5
    ·rw[if_neg hca]at h5
     by_cases he:a=n
     ·subst he
      rw[if_pos rfl]at h5
      have HT:=zhd h5
      clear h5
      go_wp2_with fail
      go_roundg (p.code.length - (i+1))
      case measure=>have:=HX.out.2.2.1;have:=HX.out.2.2.2;omega
      case rel=>exact⟨i+1,c,(a+1),q,by simp,rfl,rfl,rfl,HX.out.2.2.2,rfl,by omega,by omega,by omega,zhd ⟨HT.out,HBr.out.trans (HX.out.1.mono HBr.out.size)⟩⟩
     ·rw[if_neg he]at h5
      have HT:=zhd h5
      have he2:(a==n)=false:=by simpa using he
      clear h5
      go_wp2_with fail
      go_roundg (p.code.length - (i+1))
      case measure=>have:=HX.out.2.2.1;have:=HX.out.2.2.2;omega
      case rel=>exact⟨i+1,c,n,q,by simp,rfl,rfl,rfl,HX.out.2.2.2,rfl,by omega,by omega,by omega,zhd ⟨HT.out,HBr.out.trans (HX.out.1.mono HBr.out.size)⟩⟩
   ·have h5:=HX.out.2.1
    rw[if_neg (by decide),if_neg (by decide),if_pos rfl]at h5
    have haw:=HAW.out.1
    by_cases hp:q<a+1
    ·rw[if_pos hp]at h5
     have HT:=zhd h5
     clear h5
     go_wp2_with fail
     go_roundg (p.code.length - (i+1))
     case measure=>have:=HX.out.2.2.1;have:=HX.out.2.2.2;omega
     case rel=>exact⟨i+1,c,n,(a+1),by simp,rfl,rfl,rfl,HX.out.2.2.2,rfl,by omega,by omega,by omega,zhd ⟨HT.out,HBr.out.trans (HX.out.1.mono HBr.out.size)⟩⟩
    ·rw[if_neg hp]at h5
     have HT:=zhd h5
     clear h5
     go_wp2_with fail
     go_roundg (p.code.length - (i+1))
     case measure=>have:=HX.out.2.2.1;have:=HX.out.2.2.2;omega
     case rel=>exact⟨i+1,c,n,q,by simp,rfl,rfl,rfl,HX.out.2.2.2,rfl,by omega,by omega,by omega,zhd ⟨HT.out,HBr.out.trans (HX.out.1.mono HBr.out.size)⟩⟩
   ·have h5:=HX.out.2.1
    rw[if_neg (by decide),if_neg (by decide),if_neg (by decide)]at h5
    have HT:=zhd h5
    clear h5
    go_wp2_with fail
    go_roundg (p.code.length - (i+1))
    case measure=>have:=HX.out.2.2.1;have:=HX.out.2.2.2;omega
    case rel=>exact⟨i+1,c,n,q,by simp,rfl,rfl,rfl,HX.out.2.2.2,rfl,by omega,by omega,by omega,zhd ⟨HT.out,HBr.out.trans (HX.out.1.mono HBr.out.size)⟩⟩
   ·have h5:=HX.out.2.1
    rw[if_neg (by decide),if_neg (by decide),if_neg (by decide)]at h5
    have HT:=zhd h5
    clear h5
    go_wp2_with fail
    go_roundg (p.code.length - (i+1))
    case measure=>have:=HX.out.2.2.1;have:=HX.out.2.2.2;omega
    case rel=>exact⟨i+1,c,n,q,by simp,rfl,rfl,rfl,HX.out.2.2.2,rfl,by omega,by omega,by omega,zhd ⟨HT.out,HBr.out.trans (HX.out.1.mono HBr.out.size)⟩⟩
  ·obtain rfl:i=cn:=by have:=HL.out.1;omega
   have htd:=HR.out.1
   rw[List.drop_eq_nil_of_le (by have:=HL.out.1;omega),tdRun]at htd
   have ht2:c=(kn:Int)∧n=(nn:Int)∧q=pl:=by
    have e:=HL.out
    simp at htd
    omega
   obtain⟨rfl,rfl,rfl⟩:=ht2
   have HB:=zh2 HR.out.2 BW
   obtain⟨wm,hwm⟩:∃wm,wm=wr:=⟨_,rfl⟩
   rw[←hwm]at k0 k1 k2 k3 lx HB⊢
   clear htd HR BW hgk hin hi hwm c0 n0 q0 bc bn bq
   go_wp2_with fail
   go_loopg [8] (p.consts.length) (fun gk v8 wr=>∃a:Nat,v8= .int .i64 a∧a≤p.consts.length∧gk=p.consts.length - a∧Below wm.heap.size wm wr)
   case atStart=>exact⟨0,rfl,Nat.zero_le _,rfl,Below.refl _ _⟩
   case round=>
    obtain⟨a,rfl,ha,hgk,hB⟩:=hrel
    have BK:=zh2 hB hgk
    have BW:=zhd (HB.out.2.trans (hB.mono HB.out.2.size))
    rw[←hB.cell (p:=⟨w.heap.size,_,none⟩) lx]at k0 k1 k2 k3
    have lr:w.heap.size<wr.heap.size:=Nat.lt_of_lt_of_le lx hB.size
    clear hB hgk
    by_cases han:a<kn
    ·have han':(a:Int)<kn:=by omega
     obtain⟨wo,hwo⟩:∃wo,wo=wr:=⟨_,rfl⟩
     rw[←hwo]at k0 k1 k2 k3 lr BK BW⊢
     clear hwo
     go_wp2_with fail
     go_loopg [9] a (fun gk v9 wr=>∃b:Nat,v9= .int .i64 b∧b≤a∧gk=a - b∧Below wo.heap.size wo wr)
     case atStart=>exact⟨0,rfl,Nat.zero_le _,rfl,Below.refl _ _⟩
     case round=>
      obtain⟨b,rfl,hb,hgk,hB⟩:=hrel
      have BB:=zh2 hB hgk
      rw[←hB.cell (p:=⟨w.heap.size,_,none⟩) lr]at k0 k1 k2 k3
      have lq:w.heap.size<wr.heap.size:=Nat.lt_of_lt_of_le lr hB.size
      have BQ:=BW.out.trans (hB.mono BW.out.size)
      clear hB hgk
      by_cases hba:b<a
      ·obtain⟨x,hx⟩:=elem_at (l:=p.consts) (k:=a) (by have:=HL.out.2.1;omega)
       obtain⟨y,hy⟩:=elem_at (l:=p.consts) (k:=b) (by have:=HL.out.2.1;omega)
       obtain⟨g,off,d,rfl,_,_,hg,hC,x0,x1,x2,x3⟩:=HI.out.1.const_at BQ hx
       obtain⟨g',off',d',e',_,_,_,hD,y0,y1,y2,y3⟩:=HI.out.1.const_at BQ hy
       cases e'
       have hne:(cmpR x y==0)=false:=by
        rw[beq_eq_false_iff_ne]
        intro e
        exact HI.out.2.2.2.consts a b x y hba hx hy ((cmpR_zero x y (HI.out.2.2.1 x (mem_of_get hx)) (HI.out.2.2.1 y (mem_of_get hy))).1 e)
       have CW:=zhd (fun W (hW:Below wr.heap.size wr W)=>rcompare_any x.parts x (Nat.le_refl _) y d d' F F W (hC.keep (S:=fun _=>False) (zkb hW) (fun _ _ f=>f)) (hD.keep (S:=fun _=>False) (zkb hW) (fun _ _ f=>f)))
       generalize cmpR x y=cv at*
       have hba':(b:Int)<a:=by omega
       have hbn':(b:Int)<kn:=by omega
       clear hx hy hC hD BQ
       go_wp2_with fail
       refine wp_region_ext (by kernel_rfl) (by kernel_rfl) ?_
       repeat(go_big_quiet_step ((go_at_call 43;exact ext_call (CW.out _ (Subtype.property _)))))
       refine wpQuiet_nil ?_
       intro w7 hB7
       have H7:=zhd hB7
       clear hB7 CW
       go_wp2_with fail
       go_roundg (a - (b+1))
       case measure=>have:=BB.out.2;omega
       case rel=>exact⟨b+1,by simp,by omega,rfl,BB.out.1.trans (H7.out.mono BB.out.1.size)⟩
      ·obtain rfl:b=a:=by omega
       have hbb:¬(b:Int)<b:=by omega
       go_wp2_with fail
       go_roundg (p.consts.length - (b+1))
       case measure=>have:=BK.out.2;have:=HL.out.2.1;omega
       case rel=>exact⟨b+1,by simp,by have:=HL.out.2.1;omega,rfl,BK.out.1.trans (BB.out.1.mono BK.out.1.size)⟩
    ·obtain rfl:a=kn:=by have:=HL.out.2.1;omega
     have haa:¬(a:Int)<a:=by omega
     obtain⟨wo,hwo⟩:∃wo,wo=wr:=⟨_,rfl⟩
     rw[←hwo]at k0 k1 k2 k3 lr BK BW⊢
     clear hwo
     go_wp2_with fail
     go_loopg [10] (p.names.length) (fun gk v10 wr=>∃a:Nat,v10= .int .i64 a∧a≤p.names.length∧gk=p.names.length - a∧Below wo.heap.size wo wr)
     case atStart=>exact⟨0,rfl,Nat.zero_le _,rfl,Below.refl _ _⟩
     case round=>
      obtain⟨x,rfl,hx,hgk,hB⟩:=hrel
      have BN:=zh3 hgk hB (BW.out.trans (hB.mono BW.out.size))
      rw[←hB.cell (p:=⟨w.heap.size,_,none⟩) lr]at k0 k1 k2 k3
      have lq:w.heap.size<wr.heap.size:=Nat.lt_of_lt_of_le lr hB.size
      clear hgk hB
      by_cases hxn:x<nn
      ·have hxn':(x:Int)<nn:=by omega
       obtain⟨wn,hwn⟩:∃wn,wn=wr:=⟨_,rfl⟩
       rw[←hwn]at k0 k1 k2 k3 lq BN⊢
       clear hwn
       go_wp2_with fail
       go_loopg [11] x (fun gk v11 wx=>∃b:Nat,v11= .int .i64 b∧b≤x∧gk=x - b∧Below wn.heap.size wn wx)
       case atStart=>exact⟨0,rfl,Nat.zero_le _,rfl,Below.refl _ _⟩
       case round=>
        obtain⟨b,rfl,hb,hgk,hB⟩:=hrel
        have BB:=zh3 hgk hB (BN.out.2.2.trans (hB.mono BN.out.2.2.size))
        rw[←hB.cell (p:=⟨w.heap.size,_,none⟩) lq]at k0 k1 k2 k3
        have lv:w.heap.size<wr.heap.size:=Nat.lt_of_lt_of_le lq hB.size
        clear hgk hB
        by_cases hba:b<x
        ·obtain⟨s,hs⟩:=elem_at (l:=p.names) (k:=x) (by have:=HL.out.2.2.1;omega)
         obtain⟨t,ht⟩:=elem_at (l:=p.names) (k:=b) (by have:=HL.out.2.2.1;omega)
         obtain⟨g,off,rfl,_,_,hg,x0⟩:=HI.out.1.name_at BB.out.2.2 hs
         obtain⟨g',off',e',_,_,_,y0⟩:=HI.out.1.name_at BB.out.2.2 ht
         cases e'
         have hne:(s.toList==t.toList)=false:=by
          rw[beq_eq_false_iff_ne,ByteArray.toList_eq,ByteArray.toList_eq]
          intro e
          exact HI.out.2.2.2.names x b s t hba hs ht (bytes_inj.1 e)
         have hba':(b:Int)<x:=by omega
         have hbn':(b:Int)<nn:=by omega
         clear hs ht
         go_wp2_with fail
         go_region
         go_wp2_with fail
         go_roundg (x - (b+1))
         case measure=>have:=BB.out.1;omega
         case rel=>exact⟨b+1,by simp,by omega,rfl,BB.out.2.1.drew⟩
        ·obtain rfl:b=x:=by omega
         have hbb:¬(b:Int)<b:=by omega
         go_wp2_with fail
         go_roundg (p.names.length - (b+1))
         case measure=>have:=BN.out.1;have:=HL.out.2.2.1;omega
         case rel=>exact⟨b+1,by simp,by have:=HL.out.2.2.1;omega,rfl,BN.out.2.1.trans (BB.out.2.1.mono BN.out.2.1.size)⟩
      ·obtain rfl:x=nn:=by have:=HL.out.2.2.1;omega
       have hxx:¬(x:Int)<x:=by omega
       go_wp2_with fail
       go_ret
       exact⟨rfl,BN.out.2.2⟩
end Go.Proofs.YtakljipkaoahnaaGreatDoor
