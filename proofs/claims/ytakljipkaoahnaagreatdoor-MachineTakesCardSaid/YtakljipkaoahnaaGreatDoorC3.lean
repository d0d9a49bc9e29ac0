/- Parts of the proof: what the functions and the plain laws give that later parts lean on. Conditions: none beyond those that each theorem names. -/
import Derived.Test.YtakljipkaoahnaaGreatDoorC2
set_option maxRecDepth 100000
set_option maxHeartbeats 8000000
namespace Go.Proofs.YtakljipkaoahnaaGreatDoor
open Go.RowKit Go.Own Go.Own.MapTy Go.Va Go.Sort
open Go.Own.Cells (sz enc)
def TvRel (p:Img)(fa:Fa)(N b n:Nat)(v0:MV)(W0:World)(gk:Nat)(v37 v9:Value)(wr:World):Prop:=
 ∃(j:Nat) (v:MV) (s:MS) (A:List Cm),v37= .int .i64 j∧j≤n∧gk=n - j∧AL N W0.heap.size b v p s v9 A wr∧MK b v0 W0 v wr∧St p fa s∧s.events≤j∧s.taken≤s.made.length∧A=(s.made.take s.taken).map cloneC
def TiRel (W0:World)(n gk:Nat)(v54:Value)(wr:World):Prop:=
 ∃k:Nat,v54= .int .i64 k∧k≤n∧gk=n - k∧Below W0.heap.size W0 wr
def TcRel (W0:World)(n gk:Nat)(v108:Value)(wr:World):Prop:=
 ∃k:Nat,v108= .int .i64 k∧k≤n∧gk=n - k∧Below W0.heap.size W0 wr
theorem takes_walk {N:Nat}(i:IC)(p:Img)(W:World)(G:Gl Tryz.prog N W)(H:IAt (fun j=>j<W.heap.size) W i p)(hb64:Val.all.allL B64 p.consts)(ea:Option Addr)(en ec:Nat)(l:List Ev)(E:XRd (fun j=>j<W.heap.size) W (.slice ea en ec) l)(he:∀e∈l,e.v.all B64)(ba:Option Addr)(bn bc:Nat)(bs:List Bool)(BS:RdF (fun j=>j<W.heap.size) W (.slice ba bn bc) bs):
  Calls Tryz.prog 8 #[.agg #[.slice i.ca i.cn i.cc,.slice i.ka i.kn i.kc,.slice i.na i.nn i.nc,.int .i64 i.pl],.slice ea en ec,.slice ba bn bc] W fun en w'=>en= .returned (.bool true)∧Below W.heap.size W w':=by
 have hen:en=l.length:=by obtain⟨a,c,h⟩:=E.slice;cases h;rfl
 have HG:=zhd G
 have HBS:=zhd BS
 clear BS
 have RU:=zhd (fun W' (K:Below W.heap.size W W')=>runs_true W' (G.below K))
 have SM:=zhd (fun W' (K:Below W.heap.size W W')=>small14_any _ W' i p (H.below K) _ ea en ec l (E.below K))
 have HH:=zh5 H E hb64 he hen
 have HL:=zhd H.lens.1
 clear G H E hb64 he hen
 obtain⟨w0,hw0⟩:∃w0,w0=W.alloc (.cells #[.slice i.ca i.cn i.cc,.slice i.ka i.kn i.kc,.slice i.na i.nn i.nc,.int .i64 i.pl] 27):=⟨_,rfl⟩
 have B0:=zba hw0
 have X0:BoxI w0 W.heap.size i:=by rw[hw0];exact heap_alloc_new _ _
 have H0:=zh2 B0 X0
 clear B0 X0
 go_enter Tryz.func8,Tryz.ntmps8
 go_wp2_with fail
 rw[←hw0]
 clear hw0
 refine(RU.out w0 H0.out.1).mono ?_
 rintro e w1 ⟨rfl,hB1⟩
 have B1:=H0.out.1.trans (hB1.mono H0.out.1.size)
 have X1:=H0.out.2.below hB1
 obtain⟨q0,q1,q2,q3,ql⟩:=X1.all5
 have H1:=zh2 B1 X1
 clear hB1 B1 X1
 go_wp2_with fail
 refine(SM.out w1 H1.out.1).mono ?_
 rintro e w2 ⟨r,rfl,H2⟩
 have B2:=H1.out.1.trans (H2.out.2.mono H1.out.1.size)
 have X2:=H1.out.2.below H2.out.2
 obtain⟨q0,q1,q2,q3,ql⟩:=X2.all5
 have HB2:=zh2 B2 X2
 clear B2 X2
 cases r with
 |false=>
  go_wp2_with fail
  go_ret
  exact⟨rfl,HB2.out.1⟩
 |true=>
  have SF:=H2.out.1 rfl
  have hwf:∀x∈p.consts,x.wf:=fun x hx=>wf_ev (Val.allL_iff.1 HH.out.2.2.1 x hx) (SF.consts x hx)
  have hewf:∀e∈l,e.v.wf:=fun e h=>wf_ev (HH.out.2.2.2.1 e h) (SF.evs e h)
  obtain⟨fa,at_,er,hck⟩:∃fa a e,checkG p=(fa,a,e):=⟨_,_,_,rfl⟩
  have NW:=zhd (new_any _ w2 i p (HH.out.1.below HB2.out.1) hwf _ hck)
  have HF:=zh4 SF hwf hewf hck
  clear SF hwf hewf hck
  by_cases hbn:40<bn
  ·have hbn':(40:Int)<bn:=by omega
   have hbd:decide ((40:Int)<bn)=true:=decide_eq_true hbn'
   clear NW
   go_wp2_with fail
   go_ret
   exact⟨rfl,HB2.out.1⟩
  have hbn':¬(40:Int)<bn:=by omega
  have hbd:decide ((40:Int)<bn)=false:=decide_eq_false hbn'
  have HBN:=zhd hbn
  clear hbn
  go_wp2_with fail
  refine NW.out.mono ?_
  rintro e w5 (⟨h,rfl,H5⟩|⟨h0,b,v0,rfl,H5⟩)
  ·have HE:=zhd (HB2.out.1.trans (H5.out.mono HB2.out.1.size))
   clear h H5 NW q0 q1 q2 q3 ql
   go_wp2_with fail
   go_ret
   exact⟨rfl,HE.out⟩
  ·obtain rfl:er=0:=h0
   have K0:=((checkG_law HF.out.2.2.2).2 rfl).2
   have hok:=imgL_ok K0.img
   have hckc:checkG (cloneI p)=(fa,at_,0):=(checkG_clone p).trans HF.out.2.2.2
   have KC:=((checkG_law hckc).2 rfl).2
   have hsp:fa.span≤(cloneI p).code.length+1:=span_le hckc
   have PK:Pk (cloneI p):=⟨fun x hx=>by
     obtain⟨y,hy,rfl⟩:=List.mem_map.1 hx
     exact ok_clone ⟨consts_ok hok.2.2.2.2.2.2.1 y hy,HF.out.2.1 y hy⟩,fun x hx=>names_ok hok.2.2.2.2.2.2.2.1 x hx⟩
   have S0:St (cloneI p) fa (ms0 (cloneI p)):=St.zero KC hok.2.2.2.2.1
   have B5:=HB2.out.1.trans (H5.out.2.2.mono HB2.out.1.size)
   have HK:=zh4 KC PK hsp S0
   have HB5:=zhd B5
   clear q0 q1 q2 q3 ql K0 hok hckc KC hsp PK S0 B5 NW
   go_wp2_with fail
   go_loopg [37,9] en (fun gk v37 v9 wr=>TvRel (cloneI p) fa w2.heap.size b en v0 w5 gk v37 v9 wr)
   case atStart=>exact⟨0,v0,ms0 (cloneI p),[],rfl,Nat.zero_le _,rfl,⟨H5.out.1.monoZ (fun j h _=>⟨h,fun e=>by cases e⟩),XRow.nil _ _ _,(fun g h=>by cases h)⟩,MK.refl _ _ _,HK.out.2.2.2,Nat.le_refl _,Nat.le_refl _,rfl⟩
   case round=>
    obtain⟨j,v,s,A,rfl,hj,hgk,hAL,hkp,hst,hevn,htk,hA⟩:=hrel
    obtain⟨a9,n9,c9,rfl⟩:=xrow_slice3 hAL.row
    have hmo:∀q,MO v0 b q→w2.heap.size≤q:=H5.out.2.1
    have BW:Below w2.heap.size w5 wr:=hkp.keeps.below H5.out.2.2.size (fun q hq e=>by have:=hmo q e;omega)
    have BWW:Below W.heap.size W wr:=HB5.out.trans (BW.mono HB2.out.1.size)
    have hmv:∀q,q<w2.heap.size→¬MO v b q:=fun q hq e=>by
     rcases hkp.own q e with h|h
     ·have:=hmo q h;omega
     ·have:=H5.out.2.2.size;omega
    have hml:s.made.length≤700000:=by
     have h1:=hst.bd
     have h3:=HF.out.1.len
     have h4:=HH.out.2.2.2.2
     omega
    have hw5:w2.heap.size≤wr.heap.size:=Nat.le_trans H5.out.2.2.size BW.size
    have hw55:w5.heap.size≤wr.heap.size:=hkp.keeps.size
    by_cases hjn:j<en
    ·
     obtain⟨wo,rfl⟩:∃wo:World,wo=wr:=⟨_,rfl⟩
     obtain⟨ev,hev⟩:=elem_at (l:=l) (k:=j) (by have:=HH.out.2.2.2.2;omega)
     obtain⟨g,off,⟨z0,z1,z2,z3,z4,z5,z6,⟨zk,zn,zs,za,zl,zc⟩⟩,rfl,hFg,hg,hrel,hcs⟩:=HH.out.2.1.at_ hev
     have hrel2:EvF (fun j=>j<W.heap.size) W ⟨z0,z1,z2,z3,z4,z5,z6,⟨zk,zn,zs,za,zl,zc⟩⟩ ev:=hrel
     obtain⟨e0,e1,e2,e3,e4,e5,e6,ex⟩:=ev
     obtain⟨d0,d1,d2,d3,d4,d5,d6,dv⟩:=hrel2
     dsimp only at d0 d1 d2 d3 d4 d5 d6 dv
     subst d0 d1 d2 d3 d4 d5 d6
     have y0:W.cell? ⟨g,off+j*11,none⟩=some (.int .i64 z0):=hcs 0 _ rfl
     have y1:W.cell? ⟨g,off+j*11+1,none⟩=some (.int .i64 z1):=hcs 1 _ rfl
     have y2:W.cell? ⟨g,off+j*11+2,none⟩=some (.int .i64 z2):=hcs 2 _ rfl
     have y3:W.cell? ⟨g,off+j*11+3,none⟩=some (.int .i64 z3):=hcs 3 _ rfl
     have y4:W.cell? ⟨g,off+j*11+4,none⟩=some (.int .i64 z4):=hcs 4 _ rfl
     have y5:W.cell? ⟨g,off+j*11+5,none⟩=some (.string z5):=hcs 5 _ rfl
     have y6:W.cell? ⟨g,off+j*11+6,none⟩=some (.string z6):=hcs 6 _ rfl
     have y7:W.cell? ⟨g,off+j*11+7,none⟩=some (.int .i64 zk):=hcs 7 _ rfl
     have y8:W.cell? ⟨g,off+j*11+8,none⟩=some (.int .i64 zn):=hcs 8 _ rfl
     have y9:W.cell? ⟨g,off+j*11+9,none⟩=some (.string zs):=hcs 9 _ rfl
     have y10:W.cell? ⟨g,off+j*11+10,none⟩=some (.slice za zl zc):=hcs 10 _ rfl
     rw[←BWW.cell (p:=⟨g,_,none⟩) hg]at y0 y1 y2 y3 y4 y5 y6 y7 y8 y9 y10
     have hgl:g<wo.heap.size:=Nat.lt_of_lt_of_le hg BWW.size
     have hjn':(j:Int)<en:=by omega
     have hel:=HH.out.2.2.2.2
     have hen30:=HF.out.1.len
     have hj30:s.events≤30:=by omega
     have HWJ:=zhd (show wrap64 ((j:Int)+1)=(j:Int)+1 by unfold wrap64;omega)
     have hexw0:=HF.out.2.2.1 _ (zmg hev)
     have hexw:ex.wf:=hexw0
     clear hexw0
     obtain⟨rc,s2,hst2⟩:∃rc s2,applyM (cloneI p) s ⟨z0,z1,z2,z3,z4,z5,z6,ex⟩=(rc,s2):=⟨_,_,rfl⟩
     obtain⟨SA,hev2⟩:=hst.apply HK.out.1 HK.out.2.1 HK.out.2.2.1 ⟨z0,z1,z2,z3,z4,z5,z6,ex⟩ hexw hj30
     have hroom:=st_room HK.out.1 hst hj30
     obtain⟨_,_,l2,hl2,_,hl0,hlt⟩:=apply_made HK.out.2.1 hst.rk.vs hst.ml ⟨z0,z1,z2,z3,z4,z5,z6,ex⟩ hexw (N:=s.events) hst.good.pot (by omega)
     have htk2:=apply_taken (cloneI p) s ⟨z0,z1,z2,z3,z4,z5,z6,ex⟩
     rw[hst2]at SA hev2 hl2 hl0 htk2
     dsimp only at SA hev2 hl2 hl0 htk2 hlt
     have hml2:s2.made.length≤700000:=by have:=SA.bd;omega
     have HL2:=zh6 hl2 hl0 hlt htk2 htk hml2
     have HA:=zh8 hAL hkp hst SA hev2 dv hexw (zai hst2 (zai hmv (zai BWW (zai hgk hA))))
     have HN:=zh5 hevn hj30 hw5 hw55 hml
     clear hel hen30 hcs hrel hev hAL hkp hst SA hev2 dv hexw hst2 hmv BWW BW hgk hA hl2 hl0 hlt htk2 htk hml2 hevn hj30 hw5 hw55 hml hroom
     go_upto_region 12 with(fail)
     refine wp_named ?_
     intro w6 hw6
     have B6:=zba hw6
     have hb6:=zha hw6
     have xl:=zlt hb6
     have BW6:=HA.out.2.2.2.2.2.2.2.2.2.1.trans (B6.mono HA.out.2.2.2.2.2.2.2.2.2.1.size)
     have AL6:=HA.out.1.ext B6
     have MD:=zhd (made_any b v _ _ w6 AL6.mx (mds_sz HA.out.2.2.1) (by have:=HN.out.2.2.2.2;omega))
     have H6:=zh4 B6 hb6 AL6 BW6
     clear hw6 B6 hb6 AL6 BW6 y0 y1 y2 y3 y4 y5 y6 y7 y8 y9 y10 hgl
     go_wp2_with fail
     refine MD.out.mono ?_
     rintro e w7 ⟨r7,rfl,H7⟩
     obtain⟨am,cm,rfl⟩:∃a c,r7= .slice a (s.made.map cloneC).length c:=H7.out.1.slice
     obtain⟨n0,hn0⟩:∃n0,n0=(s.made.map cloneC).length:=⟨_,rfl⟩
     rw[←hn0]
     have HN0:=zhd (show n0=s.made.length by rw[hn0,List.length_map])
     have B7:Below w6.heap.size w6 w7:=H7.out.2.2
     have hb7:=(B7.block wo.heap.size xl).trans H6.out.2.1
     have xl7:=zlt hb7
     have x0:=zca hb7 0 rfl
     have x1:=zca hb7 1 rfl
     have x2:=zca hb7 2 rfl
     have x3:=zca hb7 3 rfl
     have x4:=zca hb7 4 rfl
     have x5:=zca hb7 5 rfl
     have x6:=zca hb7 6 rfl
     have x7:=zca hb7 7 rfl
     have x8:=zca hb7 8 rfl
     have x9:=zca hb7 9 rfl
     have x10:=zca hb7 10 rfl
     have AL7:=H6.out.2.2.1.ext B7
     have BW7:=H6.out.2.2.2.trans (B7.mono H6.out.2.2.2.size)
     have BR7:=H6.out.1.trans (B7.mono H6.out.1.size)
     have AP:=zhd (apply_any b v (cloneI p) s w7 AL7.mx (HG.out.below BW7) fa HK.out.1 HK.out.2.1 HK.out.2.2.1 HA.out.2.2.1 HN.out.2.1 (fun q hq=>⟨by have h1:=BR7.size;have:=HN.out.2.2.1;omega,fun e=>by have:=AL7.row.lt e;omega⟩) z0 z1 z2 z3 z4 z5 z6 ex zk zn zs za zl zc (fun j=>j<W.heap.size) (HA.out.2.2.2.2.2.1.keep (S:=fun _=>False) (zkb BW7) (fun _ _ f=>f)) HA.out.2.2.2.2.2.2.1 (fun q hq=>HA.out.2.2.2.2.2.2.2.2.1 q (by have h1:=HB2.out.1.size;have hq:q<W.heap.size:=hq;omega)) _ HA.out.2.2.2.2.2.2.2.1)
     have H7:=zh4 hb7 AL7 BW7 BR7
     clear hn0 B7 hb7 AL7 BW7 BR7 MD xl
     go_wp2_with fail
     refine AP.out.mono ?_
     rintro e w8 ⟨v8,rfl,H8⟩
     have AL8:AL w2.heap.size w5.heap.size b v8 (cloneI p) s2 (.slice a9 n9 c9) A w8:=H7.out.2.1.turn H8.out.1 H8.out.2
     have K8:MK b v0 w5 v8 w8:=HA.out.2.1.trans ((MK.ext H7.out.2.2.2).trans H8.out.2)
     have hb8:w8.heap[wo.heap.size]? =some (.cells #[.int .i64 z0,.int .i64 z1,.int .i64 z2,.int .i64 z3,.int .i64 z4,.string z5,.string z6,.int .i64 zk,.int .i64 zn,.string zs,.slice za zl zc] 60 (0,0)):=(H8.out.2.keeps.block wo.heap.size xl7 (fun e=>by have:=HA.out.1.mx.lt e;omega)).trans H7.out.1
     have xl8:=zlt hb8
     have x1:=zca hb8 1 rfl
     have BW8:Below W.heap.size W w8:=HB5.out.trans ((K8.keeps.below H5.out.2.2.size (fun q hq e=>by have:=hmo q e;omega)).mono HB2.out.1.size)
     have H8:=zh4 AL8 K8 hb8 BW8
     clear AL8 K8 hb8 BW8 x0 x2 x3 x4 x5 x6 x7 x8 x9 x10 xl7 AP
     go_upto_if 48 with(fail)
     go_cut [] (fun wx=>Below w8.heap.size w8 wx)
     case first=>
      have hml2:=HL2.out.2.2.2.2.2
      by_cases hrc:rc=0
      ·subst hrc
       have MD:=zhd (made_any b v8 _ _ w8 H8.out.1.mx (mds_sz HA.out.2.2.2.1) (by omega))
       clear hml2
       go_wp2_with fail
       refine MD.out.mono ?_
       rintro e w9 ⟨r9,rfl,H9⟩
       obtain⟨am,cm,n91,hn9,rfl⟩:∃a c n,n=(s2.made.map cloneC).length∧r9= .slice a n c:=by
        obtain⟨a,c,h⟩:=H9.out.1.slice
        exact⟨a,c,_,rfl,h⟩
       obtain⟨ks,hR9,hP9⟩:=H9.out.1.cells
       have hk9:n0≤ks.length:=by rw[hP9.1,List.length_map,HN0.out,HL2.out.1,List.length_append];omega
       obtain⟨ad,hrun,hRow,hown⟩:=cut_fromO elemC hR9 hk9
       have hms:(s2.made.map cloneC).drop n0=l2.map cloneC:=by rw[←List.map_drop,HL2.out.1,HN0.out,List.drop_left]
       have X9:=XRow.of hRow (hP9.drop n0)
       rw[hms]at X9
       obtain⟨m1,hm1⟩:∃m1,m1=n91 - n0:=⟨_,rfl⟩
       obtain⟨m2,hm2⟩:∃m2,m2=cm - n0:=⟨_,rfl⟩
       rw[←hm1,←hm2]at hrun X9
       have hlen:m1=l2.length:=by rw[hm1,hn9,List.length_map,HN0.out,HL2.out.1,List.length_append];omega
       have hx8:w9.cell? ⟨wo.heap.size,1,none⟩=some (.int .i64 z1):=(H9.out.2.2.cell (p:=⟨wo.heap.size,1,none⟩) xl8).trans x1
       have xl9:wo.heap.size<w9.heap.size:=Nat.lt_of_lt_of_le xl8 H9.out.2.2.size
       have HX9:=zh3 X9 H9.out.2.2 hlen
       have hm32:m1≤700000:=by have:=HL2.out.2.2.2.2.2;rw[hm1,hn9,List.length_map];omega
       have HM32:=zhd hm32
       clear hR9 hP9 hk9 hRow hown hms hm1 hm2 hn9 X9 hlen H9 x1 xl8 MD hm32
       go_wp2_with fail
       clear hrun
       go_loopg [54] m1 (fun gk v54 wy=>TiRel w9 m1 gk v54 wy)
       case atStart=>exact⟨0,rfl,Nat.zero_le _,rfl,Below.refl _ _⟩
       case round=>
        obtain⟨k,rfl,hk,hgk,hB⟩:=hrel
        by_cases hkn:k<m1
        ·obtain⟨c,hc⟩:=elem_at (l:=l2) (k:=k) (by rw[←HX9.out.2.2];exact hkn)
         have hc2:(l2.map cloneC)[k]? =some (cloneC c):=by rw[List.getElem?_map,hc];rfl
         have hct:=HL2.out.2.2.1 c (zmg hc)
         have hcm:=HA.out.2.2.2.1.rk.vs.mds c (by rw[HL2.out.1];exact List.mem_append_right _ (zmg hc))
         have hck:=cm_clone hcm.1 hcm.2
         obtain⟨g,off,⟨ck,ct,ca,cb,cn,⟨vk,vn,vs,la,ln,lc⟩⟩,rfl,hg,hrel,_,hcs⟩:=HX9.out.1.at_ hc2
         have hrel2:CmF (fun g=>w8.heap.size≤g) w9 ⟨ck,ct,ca,cb,cn,⟨vk,vn,vs,la,ln,lc⟩⟩ (cloneC c):=hrel
         obtain rfl:ct=z1:=hrel2.time.trans hct
         have f0:w9.cell? ⟨g,off+k*9,none⟩=some (.int .i64 ck):=hcs 0 _ rfl
         have f1:w9.cell? ⟨g,off+k*9+1,none⟩=some (.int .i64 ct):=hcs 1 _ rfl
         have f2:w9.cell? ⟨g,off+k*9+2,none⟩=some (.int .i64 ca):=hcs 2 _ rfl
         have f3:w9.cell? ⟨g,off+k*9+3,none⟩=some (.int .i64 cb):=hcs 3 _ rfl
         have f4:w9.cell? ⟨g,off+k*9+4,none⟩=some (.string cn):=hcs 4 _ rfl
         have f5:w9.cell? ⟨g,off+k*9+5,none⟩=some (.int .i64 vk):=hcs 5 _ rfl
         have f6:w9.cell? ⟨g,off+k*9+6,none⟩=some (.int .i64 vn):=hcs 6 _ rfl
         have f7:w9.cell? ⟨g,off+k*9+7,none⟩=some (.string vs):=hcs 7 _ rfl
         have f8:w9.cell? ⟨g,off+k*9+8,none⟩=some (.slice la ln lc):=hcs 8 _ rfl
         rw[←hB.cell (p:=⟨g,_,none⟩) hg]at f0 f1 f2 f3 f4 f5 f6 f7 f8
         have hgl:g<wr.heap.size:=Nat.lt_of_lt_of_le hg hB.size
         have v1:wr.cell? ⟨wo.heap.size,1,none⟩=some (.int .i64 ct):=(hB.cell (p:=⟨wo.heap.size,1,none⟩) xl9).trans hx8
         have vl:wo.heap.size<wr.heap.size:=Nat.lt_of_lt_of_le xl9 hB.size
         have hkn':(k:Int)<m1:=by omega
         have CK:=zhd (fun W' (B:Below wr.heap.size wr W')=>ccheck_any (cloneC c) ck ct ca cb cn vk vn vs la ln lc _ W' (hrel2.keep2 (hB.trans (B.mono hB.size))) hck.1 hck.2)
         have HK2:=zh2 hB hgk
         have HWK:=zhd (show wrap64 ((k:Int)+1)=(k:Int)+1 by have:=HM32.out;unfold wrap64;omega)
         have hkm:=zhd hkn
         clear hc hc2 hct hcm hck hcs hrel hrel2 hB hgk hkn hx8 xl9
         go_upto_region 17 with(fail)
         refine wp_named ?_
         intro wa hwa
         have Ba:=zba hwa
         have hba:=zha hwa
         have q0:=zca hba 0 rfl
         have q1:=zca hba 1 rfl
         have q2:=zca hba 2 rfl
         have q3:=zca hba 3 rfl
         have q4:=zca hba 4 rfl
         have q5:=zca hba 5 rfl
         have q6:=zca hba 6 rfl
         have q7:=zca hba 7 rfl
         have q8:=zca hba 8 rfl
         have ql:=zlt hba
         have va:wa.cell? ⟨wo.heap.size,1,none⟩=some (.int .i64 ct):=(Ba.cell (p:=⟨wo.heap.size,1,none⟩) vl).trans v1
         have vla:wo.heap.size<wa.heap.size:=Nat.lt_of_lt_of_le vl Ba.size
         have HBa:=zhd Ba
         clear hwa Ba hba f0 f1 f2 f3 f4 f5 f6 f7 f8 v1 vl hgl hg
         go_wp2_with fail
         refine(CK.out wa HBa.out).mono ?_
         rintro e wb ⟨rfl,hBb⟩
         have HBb:=zhd (HK2.out.1.trans ((HBa.out.trans (hBb.mono HBa.out.size)).mono HK2.out.1.size))
         clear hBb q0 q1 q2 q3 q4 q5 q6 q7 q8 ql va vla
         go_wp2_with fail
         go_roundg (m1 - (k+1))
         case measure=>have:=HK2.out.2;have:=hkm.out;omega
         case rel=>exact⟨k+1,by first|(simp;done)|(simp;exact HWK.out),hkm.out,rfl,HBb.out⟩
        ·obtain rfl:k=m1:=by omega
         have hkk:¬(k:Int)<k:=by omega
         have HE:=zhd (HX9.out.2.1.trans (hB.mono HX9.out.2.1.size))
         clear hB hgk hx8 xl9
         go_wp2_with fail
         go_meet
         case rel=>exact HE.out
      ·have hr0:(rc==0)=false:=by simpa using hrc
       have MD:=zhd (made_any b v8 _ _ w8 H8.out.1.mx (mds_sz HA.out.2.2.2.1) (by omega))
       have hnl:(s2.made.map cloneC).length=n0:=by rw[List.length_map,HN0.out,HL2.out.1,HL2.out.2.1 hrc,List.append_nil]
       have HNL:=zhd hnl
       clear hml2 hnl hrc
       go_wp2_with fail
       refine MD.out.mono ?_
       rintro e w9 ⟨r9,rfl,H9⟩
       obtain⟨am,cm,rfl⟩:∃a c,r9= .slice a n0 c:=by
        obtain⟨a,c,h⟩:=H9.out.1.slice
        exact⟨a,c,by rw[h,HNL.out]⟩
       have HE:=zhd H9.out.2.2
       clear H9 MD
       go_wp2_with fail
       go_meet
       case rel=>exact HE.out
     case rest=>
      have AL9:=H8.out.1.ext hcut
      have K9:=H8.out.2.1.trans (MK.ext hcut)
      have BW9:=H8.out.2.2.2.trans (hcut.mono H8.out.2.2.2.size)
      have HC:=zh3 AL9 K9 BW9
      have HMS:=zhd (show en - (j+1)<gk from by have:=HA.out.2.2.2.2.2.2.2.2.2.2.1;omega)
      have HEV:=zhd (show s2.events≤j+1 from by have h1:=HA.out.2.2.2.2.1;have h2:=HN.out.1;omega)
      have HT:=zhd (show s2.taken≤s2.made.length∧A=(s2.made.take s2.taken).map cloneC from by
       have h1:=HL2.out.2.2.2.1
       have h2:=HL2.out.2.2.2.2.1
       have h3:=HL2.out.1
       refine⟨by rw[h1,h3,List.length_append];omega,?_⟩
       rw[HA.out.2.2.2.2.2.2.2.2.2.2.2,h1,h3,List.take_append_of_le_length h2])
      clear hcut x1 xl8
      by_cases hjb:j<bs.length
      ·obtain⟨x,hx⟩:=elem_at hjb
       obtain⟨gb,ob,rfl,hFb,hgb,hq⟩:=HBS.out.at_ hx
       have yb:W.cell? ⟨gb,ob+j,none⟩=some (.bool x):=by have h:=hq 0 _ rfl;rw[show ob+(j*sz Bool+0)=ob+j from by simp[sz]]at h;exact h
       rw[←BW9.cell (p:=⟨gb,_,none⟩) hgb]at yb
       have hgbl:gb<wc.heap.size:=Nat.lt_of_lt_of_le hgb BW9.size
       have hbnl:bn=bs.length:=by obtain⟨a,c,h⟩:=HBS.out.slice;cases h;rfl
       have hjb':(j:Int)<bn:=by omega
       have hjd:decide ((j:Int)<bn)=true:=decide_eq_true hjb'
       clear hq hx AL9 K9 BW9 hjb hFb hbnl
       cases x with
       |false=>
        go_wp2_with fail
        go_roundg (en - (j+1))
        case measure=>exact HMS.out
        case rel=>exact⟨j+1,v8,s2,A,by first|(simp;done)|(simp;exact HWJ.out),hjn,rfl,HC.out.1,HC.out.2.1,HA.out.2.2.2.1,HEV.out,HT.out.1,HT.out.2⟩
       |true=>
        have TK:=zhd (take_any2 b v8 _ _ wc HC.out.1.mx (mds_sz HA.out.2.2.2.1) (by have:=HL2.out.2.2.2.2.2;omega) HT.out.1)
        go_wp2_with fail
        refine TK.out.mono ?_
        rintro e wd ⟨rd,rfl,Hd⟩
        obtain⟨ad,nd,cd,rfl⟩:=xrow_slice3 Hd.out.1
        have ALd:=HC.out.1.turn Hd.out.2.2.1 Hd.out.2.2.2
        obtain⟨ks,hR,hP⟩:=ALd.row.cells
        obtain⟨kr,hRr,hPr⟩:=Hd.out.1.cells
        have HBD:=zhd (show(ks.length+kr.length)*104≤140737488355328∧ks.length+kr.length≤maxLen from by
         have h1:=HL2.out.2.2.2.2.2
         have h2:=HT.out.1
         rw[hP.1,hPr.1,HT.out.2,List.length_map,List.length_take,List.length_map,List.length_drop]
         unfold maxLen
         omega)
        have HD:=zh5 ALd hP hPr hR hRr
        clear ALd hP hPr hR hRr TK
        go_wp2_with (at_builtin;refine wp_apps (α:=CC) elemC rfl (.tmp 84) (.tmp 86) rfl rfl rfl HD.out.2.2.2.1 HD.out.2.2.2.2 HBD.out.1 HBD.out.2 ?_;intro a1 q1 w1x hr1 hk1 hf1;have HFX:=zh3 hr1 hk1 hf1;clear hr1 hk1 hf1)
        have ALx:=zhd (HD.out.1.app (n:=wc.heap.size) HD.out.2.1 HD.out.2.2.1 (fun g hg=>HC.out.1.mx.lt hg) (fun g hg=>HC.out.1.row.lt hg) (by have h1:=HC.out.2.1.keeps.size;have h2:=H5.out.2.2.size;omega) (by have h1:=HC.out.2.1.keeps.size;have h2:=Hd.out.2.2.2.keeps.size;omega) Hd.out.2.2.2.keeps.size HFX.out.1 HFX.out.2.1 HFX.out.2.2)
        have Kx:MK b v0 w5 v8 w1x:=⟨(HC.out.2.1.trans Hd.out.2.2.2).keeps.trans HFX.out.2.1 (fun j hj e=>by have:=(HD.out.1.own j e).1;omega),(HC.out.2.1.trans Hd.out.2.2.2).own⟩
        have HKx:=zhd Kx
        clear Kx
        go_roundg (en - (j+1))
        case measure=>exact HMS.out
        case rel=>exact⟨j+1,v8,{s2 with taken:=s2.made.length},A++(s2.made.drop s2.taken).map cloneC,by first|(simp;done)|(simp;exact HWJ.out),hjn,rfl,ALx.out,HKx.out,HA.out.2.2.2.1.tkn _,HEV.out,Nat.le_refl _,by rw[HT.out.2,←List.map_append,List.take_append_drop,List.take_length]⟩
      ·have hbnl:bn=bs.length:=by obtain⟨a,c,h⟩:=HBS.out.slice;cases h;rfl
       have hjb':¬(j:Int)<bn:=by omega
       have hjd:decide ((j:Int)<bn)=false:=decide_eq_false hjb'
       clear AL9 K9 BW9 hjb hbnl
       go_wp2_with fail
       go_roundg (en - (j+1))
       case measure=>exact HMS.out
       case rel=>exact⟨j+1,v8,s2,A,by first|(simp;done)|(simp;exact HWJ.out),hjn,rfl,HC.out.1,HC.out.2.1,HA.out.2.2.2.1,HEV.out,HT.out.1,HT.out.2⟩
    ·obtain rfl:j=en:=by omega
     have hjj:¬(j:Int)<j:=by omega
     obtain⟨wo,rfl⟩:∃wo:World,wo=wr:=⟨_,rfl⟩
     have TK:=zhd (take_any2 b v _ _ wo hAL.mx (mds_sz hst) (by omega) htk)
     have HA:=zh8 hAL hkp hst htk hA hml hw5 (zai hw55 BWW)
     clear hgk hAL hkp hst hevn htk hA hml hw5 hw55 BW BWW hmv hj hjn
     go_wp2_with fail
     refine TK.out.mono ?_
     rintro e wd ⟨rd,rfl,Hd⟩
     obtain⟨ad,nd,cd,rfl⟩:=xrow_slice3 Hd.out.1
     have ALd:=HA.out.1.turn Hd.out.2.2.1 Hd.out.2.2.2
     obtain⟨ks,hR,hP⟩:=ALd.row.cells
     obtain⟨kr,hRr,hPr⟩:=Hd.out.1.cells
     obtain⟨T,hT⟩:∃T,T=s.made.length:=⟨_,rfl⟩
     have HTT:=zhd hT
     have hsum:ks.length+kr.length=T:=by
      have h1:=HA.out.2.2.2.1
      rw[hP.1,hPr.1,HA.out.2.2.2.2.1,List.length_map,List.length_take,List.length_map,List.length_drop]
      omega
     have HBD:=zhd (show(ks.length+kr.length)*104≤140737488355328∧ks.length+kr.length≤maxLen from by
      have h1:=HA.out.2.2.2.2.2.1
      unfold maxLen
      omega)
     have HSU:=zhd hsum
     have HD:=zh5 ALd hP hPr hR hRr
     clear ALd hP hPr hR hRr TK hsum hT
     go_wp2_with (at_builtin;refine wp_apps (α:=CC) elemC rfl (.tmp 89) (.tmp 91) rfl rfl rfl HD.out.2.2.2.1 HD.out.2.2.2.2 HBD.out.1 HBD.out.2 ?_;intro a1 q1 w1x hr1 hk1 hf1;rw[HSU.out]at hr1 hf1⊢;have HFX:=zh3 hr1 hk1 hf1;clear hr1 hk1 hf1)
     have hL:A++(s.made.drop s.taken).map cloneC=s.made.map cloneC:=by rw[HA.out.2.2.2.2.1,←List.map_append,List.take_append_drop]
     have ALx:=HD.out.1.app (n:=wo.heap.size) HD.out.2.1 HD.out.2.2.1 (fun g hg=>HA.out.1.mx.lt hg) (fun g hg=>HA.out.1.row.lt hg) HA.out.2.2.2.2.2.2.1 (by have h1:=HA.out.2.2.2.2.2.2.2.1;have h2:=Hd.out.2.2.2.keeps.size;omega) Hd.out.2.2.2.keeps.size HFX.out.1 HFX.out.2.1 HFX.out.2.2
     rw[hL]at ALx
     have Kx:MK b v0 w5 v w1x:=⟨(HA.out.2.1.trans Hd.out.2.2.2).keeps.trans HFX.out.2.1 (fun j hj e=>by have:=(HD.out.1.own j e).1;omega),(HA.out.2.1.trans Hd.out.2.2.2).own⟩
     have MD:=zhd (made_any b v _ _ w1x ALx.mx (show∀c∈s.made,szV c.v≤1073741824 from mds_sz HA.out.2.2.1) (by have h1:=HA.out.2.2.2.2.2.1;show s.made.length≤_;omega))
     have HX:=zh2 ALx Kx
     clear hL ALx Kx
     refine MD.out.mono ?_
     rintro e w2x ⟨r2,rfl,H2x⟩
     obtain⟨a2,c2,rfl⟩:∃a c,r2= .slice a T c:=by
      obtain⟨a,c,h⟩:=H2x.out.1.slice
      exact⟨a,c,by rw[h,List.length_map,HTT.out]⟩
     have AL2:=HX.out.1.ext H2x.out.2.2
     have TK:=zhd (take_any2 b v _ _ w2x AL2.mx (show∀c∈s.made,szV c.v≤1073741824 from mds_sz HA.out.2.2.1) (by have h1:=HA.out.2.2.2.2.2.1;show s.made.length≤_;omega) (Nat.le_refl _))
     have HX2:=zhd AL2
     clear AL2 MD
     go_wp2_with fail
     refine TK.out.mono ?_
     rintro e w3x ⟨r3,rfl,H3x⟩
     obtain⟨a3,c3,rfl⟩:∃a c,r3= .slice a 0 c:=by
      obtain⟨a,c,h⟩:=H3x.out.1.slice
      exact⟨a,c,by rw[h,List.length_map,List.length_drop,Nat.sub_self]⟩
     have AL3:=HX2.out.turn H3x.out.2.2.1 H3x.out.2.2.2
     have X2:XRow (fun g=>w1x.heap.size≤g) w3x 68 (.slice a2 T c2) (s.made.map cloneC):=H2x.out.1.keep H3x.out.2.2.2.keeps (fun g hg e=>by have h1:=HX.out.1.mx.lt e;have hg:w1x.heap.size≤g:=hg;omega) (fun g hg e=>by have h1:=HX.out.1.mx.lt e;have:=H2x.out.2.1 g hg;omega)
     have K3:=(HX.out.2.trans (MK.ext H2x.out.2.2)).trans H3x.out.2.2.2
     have BW3:Below W.heap.size W w3x:=HB5.out.trans ((K3.keeps.below H5.out.2.2.size (fun q hq e=>by have:=hmo q e;omega)).mono HB2.out.1.size)
     have HR:=zh3 AL3.row X2 BW3
     have hT7:T≤700000:=by have h1:=HA.out.2.2.2.2.2.1;have h2:=HTT.out;omega
     have HT7:=zhd hT7
     have hsum:=HSU.out
     clear hT7 hsum AL3 X2 K3 BW3 TK H3x H2x hmo
     go_wp2_with fail
     go_loopg [108] T (fun gk v108 wy=>TcRel w3x T gk v108 wy)
     case atStart=>exact⟨0,rfl,Nat.zero_le _,rfl,Below.refl _ _⟩
     case round=>
      obtain⟨k,rfl,hk,hgk,hB⟩:=hrel
      by_cases hkn:k<T
      ·obtain⟨c0,hc0⟩:=elem_at (l:=s.made) (k:=k) (by rw[←HTT.out];exact hkn)
       have hc:(s.made.map cloneC)[k]? =some (cloneC c0):=by rw[List.getElem?_map,hc0];rfl
       obtain⟨g1,o1,⟨ck,ct,ca,cb,cn,⟨vk,vn,vs,la,ln,lc⟩⟩,rfl,hg1,hr1,_,hs1⟩:=HR.out.1.at_ hc
       obtain⟨g2,o2,⟨dk,dt,da,db,dn,⟨ek,en2,es,ma,mn,mc⟩⟩,rfl,hg2,hr2,_,hs2⟩:=HR.out.2.1.at_ hc
       have hr1':CmF (fun g=>w2.heap.size≤g∧¬MO v b g∧¬(Value.slice (some ⟨g1,o1,none⟩) T q1).ownBlock=some g) w3x ⟨ck,ct,ca,cb,cn,⟨vk,vn,vs,la,ln,lc⟩⟩ (cloneC c0):=hr1
       have hr2':CmF (fun g=>w1x.heap.size≤g) w3x ⟨dk,dt,da,db,dn,⟨ek,en2,es,ma,mn,mc⟩⟩ (cloneC c0):=hr2
       obtain rfl:dk=ck:=hr2'.kind.trans hr1'.kind.symm
       obtain rfl:dt=ct:=hr2'.time.trans hr1'.time.symm
       obtain rfl:da=ca:=hr2'.a.trans hr1'.a.symm
       obtain rfl:db=cb:=hr2'.b.trans hr1'.b.symm
       obtain rfl:dn=cn:=hr2'.name.trans hr1'.name.symm
       have m0:w3x.cell? ⟨g1,o1+k*9,none⟩=some (.int .i64 dk):=hs1 0 _ rfl
       have m1:w3x.cell? ⟨g1,o1+k*9+1,none⟩=some (.int .i64 dt):=hs1 1 _ rfl
       have m2:w3x.cell? ⟨g1,o1+k*9+2,none⟩=some (.int .i64 da):=hs1 2 _ rfl
       have m3:w3x.cell? ⟨g1,o1+k*9+3,none⟩=some (.int .i64 db):=hs1 3 _ rfl
       have m4:w3x.cell? ⟨g1,o1+k*9+4,none⟩=some (.string dn):=hs1 4 _ rfl
       have m5:w3x.cell? ⟨g1,o1+k*9+5,none⟩=some (.int .i64 vk):=hs1 5 _ rfl
       have m6:w3x.cell? ⟨g1,o1+k*9+6,none⟩=some (.int .i64 vn):=hs1 6 _ rfl
       have m7:w3x.cell? ⟨g1,o1+k*9+7,none⟩=some (.string vs):=hs1 7 _ rfl
       have m8:w3x.cell? ⟨g1,o1+k*9+8,none⟩=some (.slice la ln lc):=hs1 8 _ rfl
       have n0:w3x.cell? ⟨g2,o2+k*9,none⟩=some (.int .i64 dk):=hs2 0 _ rfl
       have n1:w3x.cell? ⟨g2,o2+k*9+1,none⟩=some (.int .i64 dt):=hs2 1 _ rfl
       have n2:w3x.cell? ⟨g2,o2+k*9+2,none⟩=some (.int .i64 da):=hs2 2 _ rfl
       have n3:w3x.cell? ⟨g2,o2+k*9+3,none⟩=some (.int .i64 db):=hs2 3 _ rfl
       have n4:w3x.cell? ⟨g2,o2+k*9+4,none⟩=some (.string dn):=hs2 4 _ rfl
       have n5:w3x.cell? ⟨g2,o2+k*9+5,none⟩=some (.int .i64 ek):=hs2 5 _ rfl
       have n6:w3x.cell? ⟨g2,o2+k*9+6,none⟩=some (.int .i64 en2):=hs2 6 _ rfl
       have n7:w3x.cell? ⟨g2,o2+k*9+7,none⟩=some (.string es):=hs2 7 _ rfl
       have n8:w3x.cell? ⟨g2,o2+k*9+8,none⟩=some (.slice ma mn mc):=hs2 8 _ rfl
       rw[←hB.cell (p:=⟨g1,_,none⟩) hg1]at m0 m1 m2 m3 m4 m5 m6 m7 m8
       rw[←hB.cell (p:=⟨g2,_,none⟩) hg2]at n0 n1 n2 n3 n4 n5 n6 n7 n8
       have l1:g1<wr.heap.size:=Nat.lt_of_lt_of_le hg1 hB.size
       have l2:g2<wr.heap.size:=Nat.lt_of_lt_of_le hg2 hB.size
       have CS:=zhd (fun W' (B:Below wr.heap.size wr W')=>csame dk dt da db dn (cloneC c0).v ⟨vk,vn,vs,la,ln,lc⟩ ⟨ek,en2,es,ma,mn,mc⟩ _ _ W' (hr1'.keep2 (hB.trans (B.mono hB.size))).v (hr2'.keep2 (hB.trans (B.mono hB.size))).v)
       have hkd:endC c0=((dk==4)||((dk==5)||(dk==6))):=by rw[show dk=c0.kind from hr1'.kind];unfold endC;rw[Bool.or_assoc]
       have hel:endC c0=true→¬(k:Int)<(T:Int) - 1:=fun h hlt=>by
        have hm:c0∈s.made.dropLast:=by
         have h2:s.made.dropLast[k]? =some c0:=by rw[List.getElem?_dropLast,if_pos (by have:=HTT.out;omega)];exact hc0
         exact zmg h2
        rw[HA.out.2.2.1.ml.last c0 hm]at h
        cases h
       have hkn':(k:Int)<T:=by omega
       have HWK:=zhd (show wrap64 ((k:Int)+1)=(k:Int)+1 by have:=HT7.out;unfold wrap64;omega)
       have HWT:=zhd (show IntKind.i64.wrap ((T:Int) - 1)=(T:Int) - 1 from IntWalk.i64_in _ (by have:=HT7.out;omega))
       have HK2:=zh3 hB hgk hkn
       have CE:=zhd (fun(r:Bool) (hr:endC c0=r) W'=>ends_any dk dt da db dn vk vn vs la ln lc W' r (hkd.symm.trans hr))
       have HEL:=zhd hel
       clear hc hc0 hr1 hr2 hr1' hr2' hs1 hs2 hB hgk hkn hkd hel hg1 hg2
       obtain⟨eb,heb⟩:∃eb,endC c0=eb:=⟨_,rfl⟩
       have CE:=zhd (CE.out eb heb)
       have HEB:=zhd heb
       clear heb
       cases eb with
       |false=>
        go_upto_region 32 with(fail)
        refine wp_region_ext (by kernel_rfl) (by kernel_rfl) ?_
        repeat(go_big_quiet_step (first|(go_at_call 27;exact ext_call (CS.out _ (ext_below _)))|(go_at_call 30;exact ext_call (CE.out _))))
        refine wpQuiet_nil ?_
        intro wz hBz
        have HBz:=zhd (HK2.out.1.trans (hBz.mono HK2.out.1.size))
        clear hBz
        go_wp2_with fail
        go_roundg (T - (k+1))
        case measure=>have:=HK2.out.2.1;have:=HK2.out.2.2;omega
        case rel=>exact⟨k+1,by first|(simp;done)|(simp;exact HWK.out),HK2.out.2.2,rfl,HBz.out⟩
       |true=>
        have hlt:=HEL.out HEB.out
        have hld:decide ((k:Int)<(T:Int) - 1)=false:=decide_eq_false hlt
        have hwt:=HWT.out
        go_upto_region 32 with(fail)
        refine wp_region_ext (by kernel_rfl) (by kernel_rfl) ?_
        repeat(go_big_quiet_step (first|(go_at_call 27;exact ext_call (CS.out _ (ext_below _)))|(go_at_call 30;exact ext_call (CE.out _))))
        refine wpQuiet_nil ?_
        intro wz hBz
        have HBz:=zhd (HK2.out.1.trans (hBz.mono HK2.out.1.size))
        clear hBz
        go_wp2_with fail
        go_roundg (T - (k+1))
        case measure=>have:=HK2.out.2.1;have:=HK2.out.2.2;omega
        case rel=>exact⟨k+1,by first|(simp;done)|(simp;exact HWK.out),HK2.out.2.2,rfl,HBz.out⟩
      ·obtain rfl:k=T:=by omega
       have hkk:¬(k:Int)<k:=by omega
       have HE:=zhd (HR.out.2.2.trans (hB.mono HR.out.2.2.size))
       clear hB hgk
       go_wp2_with fail
       go_ret
       exact⟨rfl,HE.out⟩
theorem kind_cases {k:Int}(h:1≤k∧k≤21):k=1∨k=2∨k=3∨k=4∨k=5∨k=6∨k=7∨k=8∨k=9∨k=10∨k=11∨k=12∨k=13∨k=14∨k=15∨k=16∨k=17∨k=18∨k=19∨k=20∨k=21:=by omega
theorem rA_any (k:Int)(h:1≤k∧k≤21)(W:World)(r:Bool)(hr:hasF (evF k) 65=r):Calls Tryz.prog 64 #[.int .i64 k] W (fun e w'=>e= .returned (.bool r)∧w'=W):=by
 rcases kind_cases h with rfl|rfl|rfl|rfl|rfl|rfl|rfl|rfl|rfl|rfl|rfl|rfl|rfl|rfl|rfl|rfl|rfl|rfl|rfl|rfl|rfl
 all_goals
  have HR:=zhd hr
  clear hr h
  go_enter Tryz.func64,Tryz.ntmps64
  go_wp2_with fail
  go_ret
  exact⟨by rw[←HR.out];exact congrArg (fun b=>Ending.returned (.bool b)) (by kernel_rfl),rfl⟩
theorem rB_any (k:Int)(h:1≤k∧k≤21)(W:World)(r:Bool)(hr:hasF (evF k) 66=r):Calls Tryz.prog 65 #[.int .i64 k] W (fun e w'=>e= .returned (.bool r)∧w'=W):=by
 rcases kind_cases h with rfl|rfl|rfl|rfl|rfl|rfl|rfl|rfl|rfl|rfl|rfl|rfl|rfl|rfl|rfl|rfl|rfl|rfl|rfl|rfl|rfl
 all_goals
  have HR:=zhd hr
  clear hr h
  go_enter Tryz.func65,Tryz.ntmps65
  go_wp2_with fail
  go_ret
  exact⟨by rw[←HR.out];exact congrArg (fun b=>Ending.returned (.bool b)) (by kernel_rfl),rfl⟩
theorem rN_any (k:Int)(h:1≤k∧k≤21)(W:World)(r:Bool)(hr:hasF (evF k) 78=r):Calls Tryz.prog 66 #[.int .i64 k] W (fun e w'=>e= .returned (.bool r)∧w'=W):=by
 rcases kind_cases h with rfl|rfl|rfl|rfl|rfl|rfl|rfl|rfl|rfl|rfl|rfl|rfl|rfl|rfl|rfl|rfl|rfl|rfl|rfl|rfl|rfl
 all_goals
  have HR:=zhd hr
  clear hr h
  go_enter Tryz.func66,Tryz.ntmps66
  go_wp2_with fail
  go_ret
  exact⟨by rw[←HR.out];exact congrArg (fun b=>Ending.returned (.bool b)) (by kernel_rfl),rfl⟩
theorem rT_any (k:Int)(h:1≤k∧k≤21)(W:World)(r:Bool)(hr:hasF (evF k) 84=r):Calls Tryz.prog 67 #[.int .i64 k] W (fun e w'=>e= .returned (.bool r)∧w'=W):=by
 rcases kind_cases h with rfl|rfl|rfl|rfl|rfl|rfl|rfl|rfl|rfl|rfl|rfl|rfl|rfl|rfl|rfl|rfl|rfl|rfl|rfl|rfl|rfl
 all_goals
  have HR:=zhd hr
  clear hr h
  go_enter Tryz.func67,Tryz.ntmps67
  go_wp2_with fail
  go_ret
  exact⟨by rw[←HR.out];exact congrArg (fun b=>Ending.returned (.bool b)) (by kernel_rfl),rfl⟩
theorem rV_any (k:Int)(h:1≤k∧k≤21)(W:World)(r:Bool)(hr:hasF (evF k) 86=r):Calls Tryz.prog 68 #[.int .i64 k] W (fun e w'=>e= .returned (.bool r)∧w'=W):=by
 rcases kind_cases h with rfl|rfl|rfl|rfl|rfl|rfl|rfl|rfl|rfl|rfl|rfl|rfl|rfl|rfl|rfl|rfl|rfl|rfl|rfl|rfl|rfl
 all_goals
  have HR:=zhd hr
  clear hr h
  go_enter Tryz.func68,Tryz.ntmps68
  go_wp2_with fail
  go_ret
  exact⟨by rw[←HR.out];exact congrArg (fun b=>Ending.returned (.bool b)) (by kernel_rfl),rfl⟩
theorem rname_no (k:Int)(h:¬(1≤k∧k≤21))(W:World):Calls Tryz.prog 63 #[.int .i64 k] W (fun e w'=>e= .returned (.string ⟨#[]⟩)∧Below W.heap.size W w'):=by
 by_cases h1:k<1
 ·have d1:decide (k<1)=true:=decide_eq_true h1
  clear h
  go_enter Tryz.func63,Tryz.ntmps63
  go_wp2_with fail
  go_ret
  exact⟨rfl,zal⟩
 ·have h2:21<k:=by omega
  have d1:decide (k<1)=false:=decide_eq_false h1
  have d2:decide (21<k)=true:=decide_eq_true h2
  clear h
  go_enter Tryz.func63,Tryz.ntmps63
  go_wp2_with fail
  go_ret
  exact⟨rfl,zal⟩
theorem rname_yes (k:Int)(h:1≤k∧k≤21)(W:World):Calls Tryz.prog 63 #[.int .i64 k] W (fun e w'=>∃s:ByteArray,e= .returned (.string s)∧Hid (s.size≠0∧Below W.heap.size W w')):=by
 rcases kind_cases h with rfl|rfl|rfl|rfl|rfl|rfl|rfl|rfl|rfl|rfl|rfl|rfl|rfl|rfl|rfl|rfl|rfl|rfl|rfl|rfl|rfl
 all_goals
  clear h
  go_enter Tryz.func63,Tryz.ntmps63
  go_wp2_with fail
  go_ret
  exact⟨_,rfl,zhd ⟨by decide,zal⟩⟩
theorem bool3 (a b:Bool):a=true∨(a=false∧b=true)∨(a=false∧b=false):=by cases a<;>cases b<;>simp
theorem r9check_any (id t k a b:Int)(nm tx:ByteArray)(vk vn:Int)(vs:ByteArray)(la:Option Addr)(ln lc:Nat)(x:Val)(F:Nat→Prop)(w:World)(C:CF F w ⟨vk,vn,vs,la,ln,lc⟩ x)(hw:x.wf)(r:Int)(hr:evCh k id t a b nm.size tx.size vk (checkL x)=r):
  Calls Tryz.prog 26 #[.agg #[.int .i64 id,.int .i64 t,.int .i64 k,.int .i64 a,.int .i64 b,.string nm,.string tx,.int .i64 vk,.int .i64 vn,.string vs,.slice la ln lc]] w (fun e w'=>e= .returned (.int .i64 r)∧Below w.heap.size w w'):=by
 obtain⟨w0,hw0⟩:∃w0,w0=w.alloc (.cells #[.int .i64 id,.int .i64 t,.int .i64 k,.int .i64 a,.int .i64 b,.string nm,.string tx,.int .i64 vk,.int .i64 vn,.string vs,.slice la ln lc] 60):=⟨_,rfl⟩
 have B0:=zba hw0
 have hB:=zha hw0
 have r2:=zca hB 2 rfl
 have lr:w.heap.size<w0.heap.size:=zlt hB
 have HCK:=zhd (fun W (B:Below w.heap.size w W)=>rcheck_any x vk vn vs la ln lc F W (C.keep (S:=fun _=>False) (zkb B) (fun _ _ f=>f)) hw)
 obtain⟨cl,hcl⟩:∃cl,checkL x=cl:=⟨_,rfl⟩
 rw[hcl]at hr HCK
 have H0:=zh2 B0 hB
 clear B0 hB C hw hcl
 unfold evCh at hr
 by_cases hk:1≤k∧k≤21
 ·obtain⟨e1,e2,e3⟩:=evHas_some hk
  rw[e1]at hr
  dsimp only at hr
  have NY:=zhd (rname_yes k hk w0)
  have HA:=zhd (fun W=>rA_any k hk W _ rfl)
  have HBB:=zhd (fun W=>rB_any k hk W _ rfl)
  have HN:=zhd (fun W=>rN_any k hk W _ rfl)
  have HT:=zhd (fun W=>rT_any k hk W _ rfl)
  have HV:=zhd (fun W=>rV_any k hk W _ rfl)
  generalize hasF (evF k) 65=hA at*
  generalize hasF (evF k) 66=hBb at*
  generalize hasF (evF k) 78=hN at*
  generalize hasF (evF k) 84=hT at*
  generalize hasF (evF k) 86=hV at*
  have HR0:=zhd hr
  clear e1 e2 e3 hk hr
  go_enter Tryz.func26,Tryz.ntmps26
  go_wp2_with fail
  rw[←hw0]
  clear hw0
  refine NY.out.mono ?_
  rintro e w5 ⟨sn,rfl,H5⟩
  have hB5:=H5.out.2
  have hne:sn.toList.isEmpty=false:=by rw[empty_iff];exact decide_eq_false H5.out.1
  have hb5:=(hB5.block w.heap.size lr).trans H0.out.2
  have HB:=zhd (H0.out.1.trans (hB5.mono H0.out.1.size))
  have q0:=zca hb5 0 rfl
  have q1:=zca hb5 1 rfl
  have q3:=zca hb5 3 rfl
  have q4:=zca hb5 4 rfl
  have q5:=zca hb5 5 rfl
  have q6:=zca hb5 6 rfl
  have q7:=zca hb5 7 rfl
  have q8:=zca hb5 8 rfl
  have q9:=zca hb5 9 rfl
  have q10:=zca hb5 10 rfl
  have l5:w.heap.size<w5.heap.size:=zlt hb5
  clear hb5 hB5 r2 lr
  by_cases hbad:id<1∨1048576<id∨t<0∨4611686018427387903<t∨a<0∨b<0
  ·have HR:=zhd (show(1:Int)=r from by
    have h:=HR0.out
    by_cases g:id<1∨1048576<id∨t<0∨4611686018427387903<t
    ·rw[if_pos g]at h;exact h
    ·rw[if_neg g,if_pos (by omega)]at h;exact h)
   by_cases h1:id<1
   ·have d1:decide (id<1)=true:=decide_eq_true h1
    go_wp2_with fail
    all_goals
     go_ret
     exact⟨by rw[←HR.out];rfl,HB.out⟩
   ·have d1:decide (id<1)=false:=decide_eq_false h1
    by_cases h2:1048576<id
    ·have d2:decide (1048576<id)=true:=decide_eq_true h2
     go_wp2_with fail
     all_goals
      go_ret
      exact⟨by rw[←HR.out];rfl,HB.out⟩
    ·have d2:decide (1048576<id)=false:=decide_eq_false h2
     by_cases h3:t<0
     ·have d3:decide (t<0)=true:=decide_eq_true h3
      go_wp2_with fail
      all_goals
       go_ret
       exact⟨by rw[←HR.out];rfl,HB.out⟩
     ·have d3:decide (t<0)=false:=decide_eq_false h3
      by_cases h4:4611686018427387903<t
      ·have d4:decide (4611686018427387903<t)=true:=decide_eq_true h4
       go_wp2_with fail
       all_goals
        go_ret
        exact⟨by rw[←HR.out];rfl,HB.out⟩
      ·have d4:decide (4611686018427387903<t)=false:=decide_eq_false h4
       by_cases h5:a<0
       ·have d5:decide (a<0)=true:=decide_eq_true h5
        go_wp2_with fail
        all_goals
         go_ret
         exact⟨by rw[←HR.out];rfl,HB.out⟩
       ·have d5:decide (a<0)=false:=decide_eq_false h5
        have h6:b<0:=by omega
        have d6:decide (b<0)=true:=decide_eq_true h6
        go_wp2_with fail
        all_goals
         go_ret
         exact⟨by rw[←HR.out];rfl,HB.out⟩
  ·have h1:¬id<1:=by omega
   have h2:¬1048576<id:=by omega
   have h3:¬t<0:=by omega
   have h4:¬4611686018427387903<t:=by omega
   have h5:¬a<0:=by omega
   have h6:¬b<0:=by omega
   have d1:decide (id<1)=false:=decide_eq_false h1
   have d2:decide (1048576<id)=false:=decide_eq_false h2
   have d3:decide (t<0)=false:=decide_eq_false h3
   have d4:decide (4611686018427387903<t)=false:=decide_eq_false h4
   have d5:decide (a<0)=false:=decide_eq_false h5
   have d6:decide (b<0)=false:=decide_eq_false h6
   have HR1:=zhd (show(if(hA=false∧a≠0)∨(hBb=false∧b≠0)then 1 else if 64<nm.size∨128<tx.size then 2 else if(hN=false∧nm.size≠0)∨(hT=false∧tx.size≠0)then 8 else if hV=false∧vk≠0 then 8 else cl)=r from by
    have h:=HR0.out
    rw[if_neg (by omega)]at h
    by_cases g:(hA=false∧a≠0)∨(hBb=false∧b≠0)
    ·rw[if_pos (.inr (.inr g))]at h;rw[if_pos g];exact h
    ·rw[if_neg (fun e=>e.elim h5 (fun e=>e.elim h6 g))]at h;rw[if_neg g];exact h)
   clear hbad
   go_upto_region 6 with(fail)
   clear h1 h2 h3 h4 h5 h6 d1 d2 d3 d4 d5 d6
   go_cut [56] (fun v56 wx=>v56= .bool (decide ((hA=false∧a≠0)∨(hBb=false∧b≠0)))∧wx=w5)
   case first=>
    have ha:(a !=0)=decide (a≠0):=by by_cases h:a=0<;>simp[h]
    have hb:(b !=0)=decide (b≠0):=by by_cases h:b=0<;>simp[h]
    have d:decide ((hA=false∧a≠0)∨(hBb=false∧b≠0))=((!hA&&(a !=0))||(!hBb&&(b !=0))):=by
     rw[ha,hb]
     cases hA<;>cases hBb<;>simp
    obtain⟨za,hza⟩:∃z,(a !=0)=z:=⟨_,rfl⟩
    obtain⟨zb,hzb⟩:∃z,(b !=0)=z:=⟨_,rfl⟩
    rw[hza,hzb]at d
    have HD:=zhd d
    clear d ha hb
    rcases bool3 hA za with rfl|⟨rfl,rfl⟩|⟨rfl,rfl⟩
    rotate_left 1
    ·go_wp2_with fail
     refine(HA.out _).mono ?_
     rintro e w9 ⟨rfl,hw⟩
     subst hw
     go_wp2_with fail
     go_meet
     case rel=>exact⟨by rw[HD.out];rfl,rfl⟩
    all_goals
     rcases bool3 hBb zb with rfl|⟨rfl,rfl⟩|⟨rfl,rfl⟩
     all_goals
      go_wp2_with fail
      refine(HA.out _).mono ?_
      rintro e w9 ⟨rfl,hw⟩
      subst hw
      go_wp2_with fail
      refine(HBB.out _).mono ?_
      rintro e w9 ⟨rfl,hw⟩
      subst hw
      go_wp2_with fail
      go_meet
      case rel=>exact⟨by rw[HD.out];rfl,rfl⟩
   case rest=>
    obtain⟨rfl,rfl⟩:=hcut
    cases hd:decide ((hA=false∧a≠0)∨(hBb=false∧b≠0))with
    |true=>
     have HR:=zhd (show(1:Int)=r from by
      have h:=HR1.out
      rw[if_pos (of_decide_eq_true hd)]at h
      exact h)
     go_wp2_with fail
     all_goals
      go_ret
      exact⟨by rw[←HR.out];rfl,HB.out⟩
    |false=>
     have HR:=zhd (show(if 64<nm.size∨128<tx.size then 2 else if(hN=false∧nm.size≠0)∨(hT=false∧tx.size≠0)then 8 else if hV=false∧vk≠0 then 8 else cl)=r from by
      have h:=HR1.out
      rw[if_neg (of_decide_eq_false hd)]at h
      exact h)
     by_cases h5:64<nm.size
     ·have HR:=zhd (show(2:Int)=r from by have h:=HR.out;rw[if_pos (.inl h5)]at h;exact h)
      have d5:decide ((64:Int)<(nm.size:Int))=true:=decide_eq_true (by omega)
      go_wp2_with fail
      all_goals
       go_ret
       exact⟨by rw[←HR.out];rfl,HB.out⟩
     ·have d5:decide ((64:Int)<(nm.size:Int))=false:=decide_eq_false (by omega)
      by_cases h6:128<tx.size
      ·have HR:=zhd (show(2:Int)=r from by have h:=HR.out;rw[if_pos (.inr h6)]at h;exact h)
       have d6:decide ((128:Int)<(tx.size:Int))=true:=decide_eq_true (by omega)
       go_wp2_with fail
       all_goals
        go_ret
        exact⟨by rw[←HR.out];rfl,HB.out⟩
      ·have d6:decide ((128:Int)<(tx.size:Int))=false:=decide_eq_false (by omega)
       have HR:=zhd (show(if(hN=false∧nm.size≠0)∨(hT=false∧tx.size≠0)∨(hV=false∧vk≠0)then 8 else cl)=r from by
        have h:=HR.out
        rw[if_neg (fun h=>h.elim h5 h6)]at h
        by_cases g:(hN=false∧nm.size≠0)∨(hT=false∧tx.size≠0)
        ·rw[if_pos g]at h;rw[if_pos (g.elim .inl (fun g=>.inr (.inl g)))];exact h
        ·rw[if_neg g]at h
         by_cases g2:hV=false∧vk≠0
         ·rw[if_pos g2]at h;rw[if_pos (.inr (.inr g2))];exact h
         ·rw[if_neg g2]at h;rw[if_neg (fun e=>e.elim (fun e=>g (.inl e)) (fun e=>e.elim (fun e=>g (.inr e)) g2))];exact h)
       go_upto_region 10 with(fail)
       clear d5 d6 h5 h6 hd
       go_cut [95] (fun v95 wx=>v95= .bool (decide ((hN=false∧nm.size≠0)∨(hT=false∧tx.size≠0)∨(hV=false∧vk≠0)))∧wx=wc)
       case first=>
        have d:decide ((hN=false∧nm.size≠0)∨(hT=false∧tx.size≠0)∨(hV=false∧vk≠0))=((!hN&& !nm.toList.isEmpty)||((!hT&& !tx.toList.isEmpty)||(!hV&&(vk !=0)))):=by
         rw[empty_iff,empty_iff]
         by_cases ha:nm.size=0<;>by_cases hb:tx.size=0<;>by_cases hc:vk=0<;>cases hN<;>cases hT<;>cases hV<;>simp[ha,hb,hc]
        obtain⟨za,hza⟩:∃z,nm.toList.isEmpty=z:=⟨_,rfl⟩
        obtain⟨zb,hzb⟩:∃z,tx.toList.isEmpty=z:=⟨_,rfl⟩
        obtain⟨zc,hzc⟩:∃z,(vk !=0)=z:=⟨_,rfl⟩
        rw[hza,hzb,hzc]at d
        have HD:=zhd d
        clear d
        rcases bool3 hN za with rfl|⟨rfl,rfl⟩|⟨rfl,rfl⟩
        rotate_left 2
        ·go_wp2_with fail
         refine(HN.out _).mono ?_
         rintro e w9 ⟨rfl,hw⟩
         subst hw
         go_wp2_with fail
         go_meet
         case rel=>exact⟨by rw[HD.out];rfl,rfl⟩
        all_goals
         rcases bool3 hT zb with rfl|⟨rfl,rfl⟩|⟨rfl,rfl⟩
         rotate_left 2
         ·go_wp2_with fail
          refine(HN.out _).mono ?_
          rintro e w9 ⟨rfl,hw⟩
          subst hw
          go_wp2_with fail
          refine(HT.out _).mono ?_
          rintro e w9 ⟨rfl,hw⟩
          subst hw
          go_wp2_with fail
          go_meet
          case rel=>exact⟨by rw[HD.out];rfl,rfl⟩
         all_goals
          rcases bool3 hV zc with rfl|⟨rfl,rfl⟩|⟨rfl,rfl⟩
          all_goals
           go_wp2_with fail
           refine(HN.out _).mono ?_
           rintro e w9 ⟨rfl,hw⟩
           subst hw
           go_wp2_with fail
           refine(HT.out _).mono ?_
           rintro e w9 ⟨rfl,hw⟩
           subst hw
           go_wp2_with fail
           refine(HV.out _).mono ?_
           rintro e w9 ⟨rfl,hw⟩
           subst hw
           go_wp2_with fail
           go_meet
           case rel=>exact⟨by rw[HD.out];rfl,rfl⟩
       case rest=>
        obtain⟨rfl,rfl⟩:=hcut
        cases hd2:decide ((hN=false∧nm.size≠0)∨(hT=false∧tx.size≠0)∨(hV=false∧vk≠0))with
        |true=>
         have HR:=zhd (show(8:Int)=r from by
          have h:=HR.out
          rw[if_pos (of_decide_eq_true hd2)]at h
          exact h)
         go_wp2_with fail
         all_goals
          go_ret
          exact⟨by rw[←HR.out];rfl,HB.out⟩
        |false=>
         have HR:=zhd (show cl=r from by
          have h:=HR.out
          rw[if_neg (of_decide_eq_false hd2)]at h
          exact h)
         have CH:=zhd (HCK.out _ HB.out)
         go_wp2_with fail
         refine CH.out.mono ?_
         rintro e wv ⟨nv,rfl,hBv⟩
         have HB:=zhd (HB.out.trans (hBv.mono HB.out.size))
         clear hBv
         go_wp2_with fail
         all_goals
          go_ret
          exact⟨by rw[←HR.out];rfl,HB.out⟩
 ·have HR:=zhd (show(9:Int)=r by rw[(evHas_none hk).1]at hr;exact hr)
  have NO:=zhd (rname_no k hk w0)
  clear hr hk
  go_enter Tryz.func26,Tryz.ntmps26
  go_wp2_with fail
  rw[←hw0]
  clear hw0
  refine NO.out.mono ?_
  rintro e w5 ⟨rfl,hB5⟩
  have HB:=zhd (H0.out.1.trans (hB5.mono H0.out.1.size))
  clear hB5
  go_wp2_with fail
  all_goals
   go_ret
   exact⟨by rw[←HR.out];rfl,HB.out⟩
structure Tw (N b1:Nat)(v1:MV)(p:Img)(s1:MS)(b2:Nat)(v2:MV)(s2:MS)(w:World):Prop where
 m1:MX TT (fun q=>N≤q∧¬MO v2 b2 q) w b1 v1 p s1
 m2:MX TT (fun q=>N≤q∧¬MO v1 b1 q) w b2 v2 p s2
 sep:∀q,MO v1 b1 q→¬MO v2 b2 q
 o1:∀q,MO v1 b1 q→N≤q
 o2:∀q,MO v2 b2 q→N≤q
theorem Tw.symm {N b1 b2:Nat}{v1 v2:MV}{p:Img}{s1 s2:MS}{w:World}(h:Tw N b1 v1 p s1 b2 v2 s2 w):Tw N b2 v2 p s2 b1 v1 s1 w:=⟨h.m2,h.m1,fun q a b=>h.sep q b a,h.o2,h.o1⟩
theorem Tw.ext {N b1 b2:Nat}{v1 v2:MV}{p:Img}{s1 s2:MS}{w w':World}(h:Tw N b1 v1 p s1 b2 v2 s2 w)(B:Below w.heap.size w w'):Tw N b1 v1 p s1 b2 v2 s2 w':=⟨h.m1.ext B,h.m2.ext B,h.sep,h.o1,h.o2⟩
theorem Tw.one {N b1 b2:Nat}{v1 v2 v':MV}{p:Img}{s1 s2 s':MS}{w w':World}(h:Tw N b1 v1 p s1 b2 v2 s2 w)(hN:N≤w.heap.size)(M:MX TT (fun q=>N≤q∧¬MO v2 b2 q) w' b1 v' p s')(K:MK b1 v1 w v' w'):Tw N b1 v' p s' b2 v2 s2 w':=by
 have nb:∀g,¬MO v1 b1 g→g<w.heap.size→¬MO v' b1 g:=fun g h1 hl e=>(K.own g e).elim h1 (fun e=>by omega)
 refine⟨M,?_,fun q a=>(K.own q a).elim (h.sep q) (fun e m=>by have:=h.m2.lt m;omega),fun q a=>(K.own q a).elim (h.o1 q) (fun e=>Nat.le_trans hN e),h.o2⟩
 exact((h.m2.monoZ (Z':=fun q=>(N≤q∧¬MO v1 b1 q)∧¬MO v' b1 q) (fun j h1 h2=>⟨h1,nb j h1.2 h2⟩)).far K.keeps (fun j hj=>h.sep j hj) (fun j hj z=>z.1.2 hj)).monoZ (fun j hz _=>⟨hz.1.1,hz.2⟩)
theorem Tw.new {N b1 b2:Nat}{v1 v2:MV}{p:Img}{s1 s2:MS}{w w':World}(h:MX TT (fun q=>N≤q) w b1 v1 p s1)(h1:∀q,MO v1 b1 q→N≤q)(hN:N≤w.heap.size)(B:Below w.heap.size w w')(k:MX TT (fun q=>w.heap.size≤q) w' b2 v2 p s2)(k1:∀q,MO v2 b2 q→w.heap.size≤q):Tw N b1 v1 p s1 b2 v2 s2 w':=
 ⟨(h.monoZ (Z':=fun q=>N≤q∧q<w.heap.size) (fun j a b=>⟨a,b⟩)).ext B|>.monoZ (fun j a _=>⟨a.1,fun e=>by have:=k1 j e;omega⟩),k.monoZ (fun j a _=>⟨by have a:w.heap.size≤j:=a;omega,fun e=>by have:=h.lt e;have a:w.heap.size≤j:=a;omega⟩),fun q a b=>by have:=h.lt a;have:=k1 q b;omega,h1,fun q a=>Nat.le_trans hN (k1 q a)⟩
theorem tw_one {N N0 b1 b2:Nat}{v1 v2:MV}{p:Img}{s1 s2:MS}{w:World}(h:Tw N b1 v1 p s1 b2 v2 s2 w)(hN:N≤w.heap.size)(G:Gl Tryz.prog N0 w){fa:Fa}(K:Known p fa)(P:Pk p)(hsp:fa.span≤p.code.length+1)(S:St p fa s1)(hev:s1.events≤30)
  (id t k a bb:Int)(nm tx:ByteArray)(x:Val)(vk vn:Int)(vs:ByteArray)(la:Option Addr)(ln lc:Nat)(F:Nat→Prop)(C:CF F w ⟨vk,vn,vs,la,ln,lc⟩ x)(hw:x.wf)(hF:∀g,F g→g<N)(r:Int×MS)
  (hr:applyM p s1 ⟨id,t,k,a,bb,nm,tx,x⟩=r):
  Calls Tryz.prog 20 #[.pointer (some ⟨b1,0,none⟩),
  .agg #[.int .i64 id,.int .i64 t,.int .i64 k,.int .i64 a,.int .i64 bb,.string nm,.string tx,.int .i64 vk,.int .i64 vn,.string vs,.slice la ln lc]
  ] w (fun e w'=>∃v',e= .returned (.int .i64 r.1)∧Hid (Tw N b1 v' p r.2 b2 v2 s2 w'∧MK b1 v1 w v' w')):=
 (apply_any b1 v1 p s1 w h.m1 G fa K P hsp S hev (fun j hj=>⟨Nat.le_trans hN hj,fun e=>by have:=h.m2.lt e;omega⟩) id t k a bb nm tx x vk vn vs la ln lc F C hw (fun g hg e=>by have:=hF g hg;have:=h.o1 g e;omega) r hr).mono
   fun _ _ ⟨v',he,H⟩=>⟨v',he,zhd ⟨h.one hN H.out.1 H.out.2,H.out.2⟩⟩
theorem tw_two {N N0 b1 b2:Nat}{v1 v2:MV}{p:Img}{s1 s2:MS}{w:World}(h:Tw N b1 v1 p s1 b2 v2 s2 w)(hN:N≤w.heap.size)(G:Gl Tryz.prog N0 w){fa:Fa}(K:Known p fa)(P:Pk p)(hsp:fa.span≤p.code.length+1)(S:St p fa s2)(hev:s2.events≤30)
  (id t k a bb:Int)(nm tx:ByteArray)(x:Val)(vk vn:Int)(vs:ByteArray)(la:Option Addr)(ln lc:Nat)(F:Nat→Prop)(C:CF F w ⟨vk,vn,vs,la,ln,lc⟩ x)(hw:x.wf)(hF:∀g,F g→g<N)(r:Int×MS)
  (hr:applyM p s2 ⟨id,t,k,a,bb,nm,tx,x⟩=r):
  Calls Tryz.prog 20 #[.pointer (some ⟨b2,0,none⟩),
  .agg #[.int .i64 id,.int .i64 t,.int .i64 k,.int .i64 a,.int .i64 bb,.string nm,.string tx,.int .i64 vk,.int .i64 vn,.string vs,.slice la ln lc]
  ] w (fun e w'=>∃v',e= .returned (.int .i64 r.1)∧Hid (Tw N b1 v1 p s1 b2 v' r.2 w'∧MK b2 v2 w v' w')):=
 (tw_one h.symm hN G K P hsp S hev id t k a bb nm tx x vk vn vs la ln lc F C hw hF r hr).mono fun _ _ ⟨v',he,H⟩=>⟨v',he,zhd ⟨H.out.1.symm,H.out.2⟩⟩
end Go.Proofs.YtakljipkaoahnaaGreatDoor
