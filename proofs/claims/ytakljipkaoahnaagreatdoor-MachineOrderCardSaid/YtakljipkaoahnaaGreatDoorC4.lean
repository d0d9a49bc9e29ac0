/- Parts of the proof: what the functions and the plain laws give that later parts lean on. Conditions: none beyond those that each theorem names. -/
import Derived.Test.YtakljipkaoahnaaGreatDoorC3
set_option maxRecDepth 100000
set_option maxHeartbeats 8000000
namespace Go.Proofs.YtakljipkaoahnaaGreatDoor
open Go.RowKit Go.Own Go.Own.MapTy Go.Va Go.Sort
open Go.Own.Cells (sz enc)
structure OW (p:Img)(fa:Fa)(N b1 b2:Nat)(w5:World)(v1:MV)(s1:MS)(v2:MV)(s2:MS)(w:World):Prop where
 tw:Tw N b1 v1 p s1 b2 v2 s2 w
 bl:Below N w5 w
 st1:St p fa s1
 st2:St p fa s2
 lk:Like s2 s1
def OrRel (p:Img)(fa:Fa)(N b1 b2 n at_:Nat)(w5:World)(gk:Nat)(v46:Value)(wr:World):Prop:=
 ∃(j:Nat) (v1:MV) (s1:MS) (v2:MV) (s2:MS),v46= .int .i64 j∧j≤n∧gk=n - j∧OW p fa N b1 b2 w5 v1 s1 v2 s2 wr∧s1.events≤j∧s2.events≤j+2∧(j≤at_→s2.events≤j)
def OrCut (p:Img)(fa:Fa)(N b1 b2:Nat)(w5:World)(v1:MV)(s1:MS)(j at_ X:Nat)(o:Obj)(wx:World):Prop:=
 ∃(v2:MV) (s2:MS),Hid (OW p fa N b1 b2 w5 v1 s1 v2 s2 wx∧(s2.events≤j+2∧(j+1≤at_→s2.events≤j))∧wx.heap[X]? =some o∧¬MO v1 b1 X∧¬MO v2 b2 X)
theorem like_extra {p:Img}{fa:Fa}{s s1:MS}(S:St p fa s)(h:Like s s1)(he:s.events≤30){e:Ev}(hk:e.kind=12∨e.kind=9)(ha:e.a=1099511627776):Like (applyM p s e).2 s1:=(extra_like S.good S.rk.vs (by have:=S.bd;omega) hk ha).trans h
def OcRel (W0:World)(n gk:Nat)(v91:Value)(wr:World):Prop:=
 ∃k:Nat,v91= .int .i64 k∧k≤n∧gk=n - k∧Below W0.heap.size W0 wr
theorem order_walk {N:Nat}(i:IC)(p:Img)(W:World)(G:Gl Tryz.prog N W)(H:IAt (fun j=>j<W.heap.size) W i p)(hb64:Val.all.allL B64 p.consts)(ea:Option Addr)(en ec:Nat)(l:List Ev)(E:XRd (fun j=>j<W.heap.size) W (.slice ea en ec) l)(he:∀e∈l,e.v.all B64)(at_:Int):
  Calls Tryz.prog 7 #[.agg #[.slice i.ca i.cn i.cc,.slice i.ka i.kn i.kc,.slice i.na i.nn i.nc,.int .i64 i.pl],.slice ea en ec,.int .i64 at_] W fun en w'=>en= .returned (.bool true)∧Below W.heap.size W w':=by
 have hen:en=l.length:=by obtain⟨a,c,h⟩:=E.slice;cases h;rfl
 have HG:=zhd G
 have RU:=zhd (fun W' (K:Below W.heap.size W W')=>runs_true W' (G.below K))
 have SM:=zhd (fun W' (K:Below W.heap.size W W')=>small14_any _ W' i p (H.below K) _ ea en ec l (E.below K))
 have HH:=zh5 H E hb64 he hen
 have HL:=zhd H.lens.1
 clear G H E hb64 he hen
 obtain⟨w0,hw0⟩:∃w0,w0=W.alloc (.cells #[.slice i.ca i.cn i.cc,.slice i.ka i.kn i.kc,.slice i.na i.nn i.nc,.int .i64 i.pl] 27):=⟨_,rfl⟩
 have B0:=zba hw0
 have X0:BoxI w0 W.heap.size i:=by rw[hw0];exact heap_alloc_new _ _
 have H0:=zh2 B0 X0
 clear B0 X0
 go_enter Tryz.func7,Tryz.ntmps7
 go_wp2_with fail
 rw[←hw0]
 clear hw0
 refine(RU.out w0 H0.out.1).mono ?_
 rintro e w1 ⟨rfl,hB1⟩
 have B1:=H0.out.1.trans (hB1.mono H0.out.1.size)
 have X1:=H0.out.2.below hB1
 obtain⟨q0,q1,q2,q3,ql⟩:=X1.all5
 have H1:=zh2 B1 X1
 clear hB1 B1 X1
 go_wp2_with fail
 refine(SM.out w1 H1.out.1).mono ?_
 rintro e w2 ⟨r,rfl,H2⟩
 have B2:=H1.out.1.trans (H2.out.2.mono H1.out.1.size)
 have X2:=H1.out.2.below H2.out.2
 obtain⟨q0,q1,q2,q3,ql⟩:=X2.all5
 have HB2:=zh2 B2 X2
 clear B2 X2
 cases r with
 |false=>
  go_wp2_with fail
  go_ret
  exact⟨rfl,HB2.out.1⟩
 |true=>
  have SF:=H2.out.1 rfl
  have hwf:∀x∈p.consts,x.wf:=fun x hx=>wf_ev (Val.allL_iff.1 HH.out.2.2.1 x hx) (SF.consts x hx)
  have hewf:∀e∈l,e.v.wf:=fun e h=>wf_ev (HH.out.2.2.2.1 e h) (SF.evs e h)
  obtain⟨fa,ak,er,hck⟩:∃fa a e,checkG p=(fa,a,e):=⟨_,_,_,rfl⟩
  have NW:=zhd (fun W' (B:Below W.heap.size W W')=>new_any _ W' i p (HH.out.1.below B) hwf _ hck)
  have HF:=zh4 SF hwf hewf hck
  clear SF hwf hewf hck
  by_cases h1:at_<1
  ·have d1:decide (at_<1)=true:=decide_eq_true h1
   clear NW
   go_wp2_with fail
   go_ret
   exact⟨rfl,HB2.out.1⟩
  have d1:decide (at_<1)=false:=decide_eq_false h1
  by_cases h2:(en:Int)<at_
  ·have d2:decide ((en:Int)<at_)=true:=decide_eq_true h2
   clear NW
   go_wp2_with fail
   go_ret
   exact⟨rfl,HB2.out.1⟩
  have d2:decide ((en:Int)<at_)=false:=decide_eq_false h2
  obtain⟨at_,rfl⟩:∃a:Nat,at_=(a:Int):=⟨at_.toNat,by omega⟩
  have HAT:=zhd (show at_≤en by omega)
  go_wp2_with fail
  refine(NW.out _ HB2.out.1).mono ?_
  rintro e w5 (⟨h,rfl,H5⟩|⟨h0,b1,v1,rfl,H5⟩)
  ·have HE:=zhd (HB2.out.1.trans (H5.out.mono HB2.out.1.size))
   have X5:=HB2.out.2.below H5.out
   obtain⟨q0,q1,q2,q3,ql⟩:=X5.all5
   have HNE:=zhd h
   clear h H5 X5 d1 d2
   go_wp2_with fail
   refine(NW.out _ HE.out).mono ?_
   rintro e w6 (⟨h,rfl,H6⟩|⟨h0,b2,v2,rfl,H6⟩)
   ·have HE6:=zhd (HE.out.trans (H6.out.mono HE.out.size))
    clear h H6 q0 q1 q2 q3 ql
    go_wp2_with fail
    go_ret
    exact⟨rfl,HE6.out⟩
   ·exact absurd h0 HNE.out
  ·obtain rfl:er=0:=h0
   have B5:=HB2.out.1.trans (H5.out.2.2.mono HB2.out.1.size)
   have X5:=HB2.out.2.below H5.out.2.2
   obtain⟨q0,q1,q2,q3,ql⟩:=X5.all5
   have HB5:=zhd B5
   clear B5 X5 d1 d2
   go_wp2_with fail
   refine(NW.out _ HB5.out).mono ?_
   rintro e w6 (⟨h,_⟩|⟨_,b2,v2,rfl,H6⟩)
   ·exact absurd rfl h
   have K0:=((checkG_law HF.out.2.2.2).2 rfl).2
   have hok:=imgL_ok K0.img
   have hckc:checkG (cloneI p)=(fa,ak,0):=(checkG_clone p).trans HF.out.2.2.2
   have KC:=((checkG_law hckc).2 rfl).2
   have hsp:fa.span≤(cloneI p).code.length+1:=span_le hckc
   have PK:Pk (cloneI p):=⟨fun x hx=>by
     obtain⟨y,hy,rfl⟩:=List.mem_map.1 hx
     exact ok_clone ⟨consts_ok hok.2.2.2.2.2.2.1 y hy,HF.out.2.1 y hy⟩,fun x hx=>names_ok hok.2.2.2.2.2.2.2.1 x hx⟩
   have S0:St (cloneI p) fa (ms0 (cloneI p)):=St.zero KC hok.2.2.2.2.1
   have HK:=zh4 KC PK hsp S0
   have B6:=HB5.out.trans (H6.out.2.2.mono HB5.out.size)
   have T6:Tw w2.heap.size b1 v1 (cloneI p) (ms0 (cloneI p)) b2 v2 (ms0 (cloneI p)) w6:=Tw.new H5.out.1 H5.out.2.1 H5.out.2.2.size H6.out.2.2 H6.out.1 H6.out.2.1
   have HB6:=zh3 B6 T6 (Nat.le_trans H5.out.2.2.size H6.out.2.2.size)
   clear q0 q1 q2 q3 ql K0 hok hckc KC hsp PK S0 B6 T6 NW H5 H6
   go_wp2_with fail
   go_loopg [46] en (fun gk v46 wr=>OrRel (cloneI p) fa w2.heap.size b1 b2 en at_ w6 gk v46 wr)
   case atStart=>exact⟨0,v1,_,v2,_,rfl,Nat.zero_le _,rfl,⟨HB6.out.2.1,Below.refl _ _,HK.out.2.2.2,HK.out.2.2.2,rfl⟩,Nat.le_refl _,Nat.zero_le _,fun _=>Nat.le_refl _⟩
   case round=>
    obtain⟨j,v1,s1,v2,s2,rfl,hj,hgk,HO,he1,he2,he3⟩:=hrel
    obtain⟨wo,rfl⟩:∃wo:World,wo=wr:=⟨_,rfl⟩
    have BWW:Below W.heap.size W wo:=HB6.out.1.trans (HO.bl.mono HB2.out.1.size)
    have hwN:w2.heap.size≤wo.heap.size:=Nat.le_trans HB6.out.2.2 HO.bl.size
    by_cases hjn:j<en
    ·
     obtain⟨ev,hev⟩:=elem_at (l:=l) (k:=j) (by have:=HH.out.2.2.2.2;omega)
     obtain⟨g,off,⟨z0,z1,z2,z3,z4,z5,z6,⟨zk,zn,zs,za,zl,zc⟩⟩,rfl,hFg,hg,hrel,hcs⟩:=HH.out.2.1.at_ hev
     have hrel2:EvF (fun j=>j<W.heap.size) W ⟨z0,z1,z2,z3,z4,z5,z6,⟨zk,zn,zs,za,zl,zc⟩⟩ ev:=hrel
     obtain⟨e0,e1,e2,e3,e4,e5,e6,ex⟩:=ev
     obtain⟨d0,d1,d2,d3,d4,d5,d6,dv⟩:=hrel2
     dsimp only at d0 d1 d2 d3 d4 d5 d6 dv
     subst d0 d1 d2 d3 d4 d5 d6
     have y0:W.cell? ⟨g,off+j*11,none⟩=some (.int .i64 z0):=hcs 0 _ rfl
     have y1:W.cell? ⟨g,off+j*11+1,none⟩=some (.int .i64 z1):=hcs 1 _ rfl
     have y2:W.cell? ⟨g,off+j*11+2,none⟩=some (.int .i64 z2):=hcs 2 _ rfl
     have y3:W.cell? ⟨g,off+j*11+3,none⟩=some (.int .i64 z3):=hcs 3 _ rfl
     have y4:W.cell? ⟨g,off+j*11+4,none⟩=some (.int .i64 z4):=hcs 4 _ rfl
     have y5:W.cell? ⟨g,off+j*11+5,none⟩=some (.string z5):=hcs 5 _ rfl
     have y6:W.cell? ⟨g,off+j*11+6,none⟩=some (.string z6):=hcs 6 _ rfl
     have y7:W.cell? ⟨g,off+j*11+7,none⟩=some (.int .i64 zk):=hcs 7 _ rfl
     have y8:W.cell? ⟨g,off+j*11+8,none⟩=some (.int .i64 zn):=hcs 8 _ rfl
     have y9:W.cell? ⟨g,off+j*11+9,none⟩=some (.string zs):=hcs 9 _ rfl
     have y10:W.cell? ⟨g,off+j*11+10,none⟩=some (.slice za zl zc):=hcs 10 _ rfl
     rw[←BWW.cell (p:=⟨g,_,none⟩) hg]at y0 y1 y2 y3 y4 y5 y6 y7 y8 y9 y10
     have hgl:g<wo.heap.size:=Nat.lt_of_lt_of_le hg BWW.size
     have hjn':(j:Int)<en:=by omega
     have hen20:=HF.out.1.len
     have hel:=HH.out.2.2.2.2
     have HWJ:=zhd (show wrap64 ((j:Int)+1)=(j:Int)+1 by unfold wrap64;omega)
     have hexw0:=HF.out.2.2.1 _ (zmg hev)
     have hexw:ex.wf:=hexw0
     have HV:=zh2 dv hexw
     have HJ:=zhd (show(j:Nat)<20 by omega)
     have HG2:=zhd hgk
     clear hexw0 hexw dv hen20 hel hcs hrel hev hgk hFg
     have HO1:=zh6 HO he1 he2 he3 BWW hwN
     clear HO he1 he2 he3 BWW hwN
     go_upto_region 12 with(fail)
     refine wp_named ?_
     intro w7 hw7
     have B7:=zba hw7
     have hb7:=zha hw7
     have T7:=HO1.out.1.tw.ext B7
     have hn1:¬MO v1 b1 wo.heap.size:=fun e=>by have:=HO1.out.1.tw.m1.lt e;omega
     have hn2:¬MO v2 b2 wo.heap.size:=fun e=>by have:=HO1.out.1.tw.m2.lt e;omega
     have BL7:=HO1.out.1.bl.trans (B7.mono HO1.out.2.2.2.2.2)
     have BW7:=HO1.out.2.2.2.2.1.trans (B7.mono HO1.out.2.2.2.2.1.size)
     have x1:=zca hb7 1 rfl
     have xl:=zlt hb7
     have hN7:w2.heap.size≤w7.heap.size:=Nat.le_trans HO1.out.2.2.2.2.2 B7.size
     have H7:=zh8 B7 hb7 T7 hn1 hn2 BL7 BW7 hN7
     clear hw7 B7 hb7 T7 hn1 hn2 BL7 BW7 hN7 y0 y1 y2 y3 y4 y5 y6 y7 y8 y9 y10 hgl hg
     go_upto_if 53 with(fail)
     go_cut [] (fun wx=>OrCut (cloneI p) fa w2.heap.size b1 b2 w6 v1 s1 j at_ wo.heap.size (.cells #[.int .i64 z0,.int .i64 z1,.int .i64 z2,.int .i64 z3,.int .i64 z4,.string z5,.string z6,.int .i64 zk,.int .i64 zn,.string zs,.slice za zl zc] 60 (0,0)) wx)
     case first=>
      by_cases hja:j=at_
      ·have hjb:((j:Int)==(at_:Int))=true:=by rw[beq_iff_eq];omega
       have hev1:s2.events≤j:=HO1.out.2.2.2.1 (by omega)
       have hj20:=HJ.out
       obtain⟨ra,sa,hsa⟩:∃r s,applyM (cloneI p) s2 ⟨1,max 0 z1,12,1099511627776,0,⟨#[]⟩,⟨#[]⟩,vNil0⟩=(r,s):=⟨_,_,rfl⟩
       obtain⟨SA,hea⟩:=HO1.out.1.st2.apply HK.out.1 HK.out.2.1 HK.out.2.2.1 ⟨1,max 0 z1,12,1099511627776,0,⟨#[]⟩,⟨#[]⟩,vNil0⟩ wf_nil (by omega)
       have LA:=like_extra HO1.out.1.st2 HO1.out.1.lk (by omega) (p:=cloneI p) (e:=⟨1,max 0 z1,12,1099511627776,0,⟨#[]⟩,⟨#[]⟩,vNil0⟩) (.inl rfl) rfl
       rw[hsa]at SA hea LA
       dsimp only at SA hea LA
       have T1:=zhd (tw_two H7.out.2.2.1 H7.out.2.2.2.2.2.2.2 (HG.out.below H7.out.2.2.2.2.2.2.1) HK.out.1 HK.out.2.1 HK.out.2.2.1 HO1.out.1.st2 (by omega) 1 (max 0 z1) 12 1099511627776 0 ⟨#[]⟩ ⟨#[]⟩ vNil0 0 0 ⟨#[]⟩ none 0 0 (fun _=>False) (cf_nil0 _ _) wf_nil (fun _ f=>f.elim) _ hsa)
       obtain⟨rb,sb,hsb⟩:∃r s,applyM (cloneI p) sa ⟨1,max 0 z1,9,1099511627776,0,⟨#[120]⟩,⟨#[]⟩,vNil0⟩=(r,s):=⟨_,_,rfl⟩
       obtain⟨SB,heb⟩:=SA.apply HK.out.1 HK.out.2.1 HK.out.2.2.1 ⟨1,max 0 z1,9,1099511627776,0,⟨#[120]⟩,⟨#[]⟩,vNil0⟩ wf_nil (by omega)
       have LB:=like_extra SA LA (by omega) (p:=cloneI p) (e:=⟨1,max 0 z1,9,1099511627776,0,⟨#[120]⟩,⟨#[]⟩,vNil0⟩) (.inr rfl) rfl
       rw[hsb]at SB heb LB
       dsimp only at SB heb LB
       have HP:=zh6 SA SB LB (show sb.events≤j+2 by omega) (show sa.events≤30 by omega) hsb
       have HJA:=zhd hja
       clear SA hea LA SB heb LB hsa hsb hev1 hj20 hja
       go_wp2_with fail
       refine T1.out.mono ?_
       rintro e w8 ⟨v8,rfl,H8⟩
       have hb8:=(H8.out.2.keeps.block wo.heap.size xl H7.out.2.2.2.2.1).trans H7.out.2.1
       have hn8:¬MO v8 b2 wo.heap.size:=fun e=>(H8.out.2.own _ e).elim H7.out.2.2.2.2.1 (fun e=>by omega)
       have hN8:w2.heap.size≤w8.heap.size:=Nat.le_trans H7.out.2.2.2.2.2.2.2 H8.out.2.keeps.size
       have B8:Below w2.heap.size w7 w8:=H8.out.2.keeps.below H7.out.2.2.2.2.2.2.2 (fun q hq e=>by have:=H7.out.2.2.1.o2 q e;omega)
       have x1:=zca hb8 1 rfl
       have xl:=zlt hb8
       have BW8:=H7.out.2.2.2.2.2.2.1.trans (B8.mono HB2.out.1.size)
       have T2:=zhd (tw_two H8.out.1 hN8 (HG.out.below BW8) HK.out.1 HK.out.2.1 HK.out.2.2.1 HP.out.1 HP.out.2.2.2.2.1 1 (max 0 z1) 9 1099511627776 0 ⟨#[120]⟩ ⟨#[]⟩ vNil0 0 0 ⟨#[]⟩ none 0 0 (fun _=>False) (cf_nil0 _ _) wf_nil (fun _ f=>f.elim) _ HP.out.2.2.2.2.2)
       have H8B:=zh4 hb8 hn8 hN8 B8
       clear T1 hb8 hn8 hN8 B8 BW8
       go_wp2_with fail
       refine T2.out.mono ?_
       rintro e w9 ⟨v9,rfl,H9⟩
       have hb9:=(H9.out.2.keeps.block wo.heap.size xl H8B.out.2.1).trans H8B.out.1
       have hn9:¬MO v9 b2 wo.heap.size:=fun e=>(H9.out.2.own _ e).elim H8B.out.2.1 (fun e=>by omega)
       have B9:Below w2.heap.size w8 w9:=H9.out.2.keeps.below H8B.out.2.2.1 (fun q hq e=>by have:=H8.out.1.o2 q e;omega)
       have HE:=zh3 hb9 hn9 ((H7.out.2.2.2.2.2.1.trans H8B.out.2.2.2).trans B9)
       clear T2 hb9 hn9 B9 x1 xl
       go_wp2_with fail
       go_meet
       case rel=>exact⟨v9,sb,zhd ⟨⟨H9.out.1,HE.out.2.2,HO1.out.1.st1,HP.out.2.1,HP.out.2.2.1⟩,⟨HP.out.2.2.2.1,fun h=>absurd h (by have:=HJA.out;omega)⟩,HE.out.1,H7.out.2.2.2.1,HE.out.2.1⟩⟩
      ·have hjb:((j:Int)==(at_:Int))=false:=by rw[beq_eq_false_iff_ne];omega
       have hjp:¬(j:Int)=(at_:Int):=by omega
       go_wp2_with fail
       go_meet
       case rel=>exact⟨v2,s2,zhd ⟨⟨H7.out.2.2.1,H7.out.2.2.2.2.2.1,HO1.out.1.st1,HO1.out.1.st2,HO1.out.1.lk⟩,⟨HO1.out.2.2.1,fun h=>HO1.out.2.2.2.1 (by omega)⟩,H7.out.2.1,H7.out.2.2.2.1,H7.out.2.2.2.2.1⟩⟩
     case rest=>
      obtain⟨v3,s3,HC⟩:=hcut
      clear x1 xl
      have hbc:=HC.out.2.2.1
      have x0:=zca hbc 0 rfl
      have x1:=zca hbc 1 rfl
      have x2:=zca hbc 2 rfl
      have x3:=zca hbc 3 rfl
      have x4:=zca hbc 4 rfl
      have x5:=zca hbc 5 rfl
      have x6:=zca hbc 6 rfl
      have x7:=zca hbc 7 rfl
      have x8:=zca hbc 8 rfl
      have x9:=zca hbc 9 rfl
      have x10:=zca hbc 10 rfl
      have xl:=zlt hbc
      have BWc:Below W.heap.size W wc:=HB6.out.1.trans (HC.out.1.bl.mono HB2.out.1.size)
      obtain⟨r,hr⟩:∃r,evCh z2 z0 z1 z3 z4 z5.size z6.size zk (checkL ex)=r:=⟨_,rfl⟩
      have RC:=zhd (r9check_any z0 z1 z2 z3 z4 z5 z6 zk zn zs za zl zc ex (fun j=>j<W.heap.size) wc (HV.out.1.keep (S:=fun _=>False) (zkb BWc) (fun _ _ f=>f)) HV.out.2 r hr)
      have HBc:=zhd BWc
      have hNc:w2.heap.size≤wc.heap.size:=Nat.le_trans HB6.out.2.2 HC.out.1.bl.size
      have HNc:=zhd hNc
      clear hbc BWc hr hNc
      go_wp2_with fail
      refine RC.out.mono ?_
      rintro e wd ⟨rfl,hBd⟩
      by_cases hr0:r=0
      ·subst hr0
       have Td:=HC.out.1.tw.ext hBd
       have hbd:=(hBd.block wo.heap.size xl).trans HC.out.2.2.1
       have BWd:=HBc.out.trans (hBd.mono HBc.out.size)
       have hNd:w2.heap.size≤wd.heap.size:=Nat.le_trans HNc.out hBd.size
       clear x0 x1 x2 x3 x4 x5 x6 x7 x8 x9 x10 xl
       have x0:=zca hbd 0 rfl
       have x1:=zca hbd 1 rfl
       have x2:=zca hbd 2 rfl
       have x3:=zca hbd 3 rfl
       have x4:=zca hbd 4 rfl
       have x5:=zca hbd 5 rfl
       have x6:=zca hbd 6 rfl
       have x7:=zca hbd 7 rfl
       have x8:=zca hbd 8 rfl
       have x9:=zca hbd 9 rfl
       have x10:=zca hbd 10 rfl
       have xl:=zlt hbd
       obtain⟨r1,s1x,h1x⟩:∃r s,applyM (cloneI p) s1 ⟨z0,z1,z2,z3,z4,z5,z6,ex⟩=(r,s):=⟨_,_,rfl⟩
       obtain⟨r2,s2x,h2x⟩:∃r s,applyM (cloneI p) s3 ⟨z0,z1,z2,z3,z4,z5,z6,ex⟩=(r,s):=⟨_,_,rfl⟩
       have hj20:=HJ.out
       have hq1:=HO1.out.2.1
       have hq2:=HC.out.2.1
       obtain⟨S1,g1⟩:=HC.out.1.st1.apply HK.out.1 HK.out.2.1 HK.out.2.2.1 ⟨z0,z1,z2,z3,z4,z5,z6,ex⟩ HV.out.2 (by omega)
       obtain⟨S2,g2⟩:=HC.out.1.st2.apply HK.out.1 HK.out.2.1 HK.out.2.2.1 ⟨z0,z1,z2,z3,z4,z5,z6,ex⟩ HV.out.2 (by omega)
       have LK:=HC.out.1.lk.apply (p:=cloneI p) ⟨z0,z1,z2,z3,z4,z5,z6,ex⟩
       rw[h1x]at S1 g1 LK
       rw[h2x]at S2 g2 LK
       dsimp only at S1 S2 g1 g2 LK
       have A1:=zhd (tw_one Td hNd (HG.out.below BWd) HK.out.1 HK.out.2.1 HK.out.2.2.1 HC.out.1.st1 (by omega) z0 z1 z2 z3 z4 z5 z6 ex zk zn zs za zl zc (fun j=>j<W.heap.size) (HV.out.1.keep (S:=fun _=>False) (zkb BWd) (fun _ _ f=>f)) HV.out.2 (fun g hg=>by have h1:=HB2.out.1.size;have hg:g<W.heap.size:=hg;omega) _ h1x)
       have HD:=zh8 Td hbd BWd hNd S1 S2 LK (zai (show s1x.events≤j+1 by omega) (zai (show s2x.events≤j+1+2∧(j+1≤at_→s2x.events≤j+1)from⟨by omega,fun h=>by have:=hq2.2 h;omega⟩) (zai (show s3.events≤30 by omega) (zai h2x hBd))))
       clear Td hbd BWd hNd S1 S2 LK g1 g2 h1x h2x hj20 hq1 hq2 hBd RC
       go_wp2_with fail
       refine A1.out.mono ?_
       rintro e wx ⟨v1x,rfl,Hx⟩
       have hbx:=(Hx.out.2.keeps.block wo.heap.size xl HC.out.2.2.2.1).trans HD.out.2.1
       have Bx:Below w2.heap.size wd wx:=Hx.out.2.keeps.below HD.out.2.2.2.1 (fun q hq e=>by have:=HD.out.1.o1 q e;omega)
       have hNx:w2.heap.size≤wx.heap.size:=Nat.le_trans HD.out.2.2.2.1 Bx.size
       have BWx:=HD.out.2.2.1.trans (Bx.mono HB2.out.1.size)
       clear x0 x1 x2 x3 x4 x5 x6 x7 x8 x9 x10 xl
       have x0:=zca hbx 0 rfl
       have x1:=zca hbx 1 rfl
       have x2:=zca hbx 2 rfl
       have x3:=zca hbx 3 rfl
       have x4:=zca hbx 4 rfl
       have x5:=zca hbx 5 rfl
       have x6:=zca hbx 6 rfl
       have x7:=zca hbx 7 rfl
       have x8:=zca hbx 8 rfl
       have x9:=zca hbx 9 rfl
       have x10:=zca hbx 10 rfl
       have xl:=zlt hbx
       have A2:=zhd (tw_two Hx.out.1 hNx (HG.out.below BWx) HK.out.1 HK.out.2.1 HK.out.2.2.1 HC.out.1.st2 HD.out.2.2.2.2.2.2.2.2.2.1 z0 z1 z2 z3 z4 z5 z6 ex zk zn zs za zl zc (fun j=>j<W.heap.size) (HV.out.1.keep (S:=fun _=>False) (zkb BWx) (fun _ _ f=>f)) HV.out.2 (fun g hg=>by have h1:=HB2.out.1.size;have hg:g<W.heap.size:=hg;omega) _ HD.out.2.2.2.2.2.2.2.2.2.2.1)
       have HX:=zh2 Bx hNx
       clear hbx Bx hNx BWx A1
       go_wp2_with fail
       refine A2.out.mono ?_
       rintro e wy ⟨v2y,rfl,Hy⟩
       have By:Below w2.heap.size wx wy:=Hy.out.2.keeps.below HX.out.2 (fun q hq e=>by have:=Hx.out.1.o2 q e;omega)
       have HY:=zhd (((HC.out.1.bl.trans (HD.out.2.2.2.2.2.2.2.2.2.2.2.mono HNc.out)).trans HX.out.1).trans By)
       clear By A2 x0 x1 x2 x3 x4 x5 x6 x7 x8 x9 x10 xl
       go_wp2_with fail
       go_roundg (en - (j+1))
       case measure=>have:=HG2.out;omega
       case rel=>exact⟨j+1,v1x,s1x,v2y,s2x,by first|(simp;done)|(simp;exact HWJ.out),hjn,rfl,⟨Hy.out.1,HY.out,HD.out.2.2.2.2.1,HD.out.2.2.2.2.2.1,HD.out.2.2.2.2.2.2.1⟩,HD.out.2.2.2.2.2.2.2.1,HD.out.2.2.2.2.2.2.2.2.1.1,HD.out.2.2.2.2.2.2.2.2.1.2⟩
      ·have hrb:(r !=0)=true:=by simpa using hr0
       have HE:=zhd (HBc.out.trans (hBd.mono HBc.out.size))
       clear hBd RC x0 x1 x2 x3 x4 x5 x6 x7 x8 x9 x10 xl
       go_wp2_with fail
       go_ret
       exact⟨rfl,HE.out⟩
    ·obtain rfl:j=en:=by omega
     have hjj:¬(j:Int)<j:=by omega
     have hn20:=HF.out.1.len
     have hnl:=HH.out.2.2.2.2
     have hm1:s1.made.length≤700000:=by have:=HO.st1.bd;omega
     have hmd:=HO.lk.of.2.2.1
     have htr:=HO.lk.of.2.2.2
     by_cases hat:at_=j
     ·have hab:((at_:Int)==(j:Int))=true:=by rw[beq_iff_eq];omega
      have hap:(at_:Int)=(j:Int):=by omega
      have HE:=zhd BWW
      clear HO BWW hmd htr
      go_wp2_with fail
      go_ret
      exact⟨rfl,HE.out⟩
     ·have hab:((at_:Int)==(j:Int))=false:=by rw[beq_eq_false_iff_ne];omega
      have hap:¬(at_:Int)=(j:Int):=by omega
      obtain⟨T,hT⟩:∃T,T=s1.made.length:=⟨_,rfl⟩
      have M1:=zhd (made_any b1 v1 _ _ wo HO.tw.m1 (mds_sz HO.st1) (by omega))
      have HO1:=zh6 HO hm1 hmd htr BWW hT
      clear HO hm1 hmd htr BWW hT he1 he2 he3 hgk hn20 hnl hwN
      go_wp2_with fail
      refine M1.out.mono ?_
      rintro e w7 ⟨r7,rfl,H7⟩
      obtain⟨am,cm,rfl⟩:∃a c,r7= .slice a T c:=by
       obtain⟨a,c,h⟩:=H7.out.1.slice
       exact⟨a,c,by rw[h,List.length_map,HO1.out.2.2.2.2.2]⟩
      have M2:=zhd (made_any b2 v2 _ _ w7 (HO1.out.1.tw.m2.ext H7.out.2.2) (mds_sz HO1.out.1.st2) (by have:=HO1.out.2.1;rw[HO1.out.2.2.1];omega))
      clear M1
      go_wp2_with fail
      refine M2.out.mono ?_
      rintro e w8 ⟨r8,rfl,H8⟩
      have h8r:XRow (fun g=>w7.heap.size≤g) w8 68 r8 (s1.made.map cloneC):=by rw[←HO1.out.2.2.1];exact H8.out.1
      obtain⟨an,cn2,rfl⟩:∃a c,r8= .slice a T c:=by
       obtain⟨a,c,h⟩:=h8r.slice
       exact⟨a,c,by rw[h,List.length_map,HO1.out.2.2.2.2.2]⟩
      have X1:XRow (fun g=>wo.heap.size≤g) w8 68 (.slice am T cm) (s1.made.map cloneC):=H7.out.1.below H8.out.2.2
      have BW8:=HO1.out.2.2.2.2.1.trans ((H7.out.2.2.trans (H8.out.2.2.mono H7.out.2.2.size)).mono HO1.out.2.2.2.2.1.size)
      have TA:=zhd (fun W' (B:Below w8.heap.size w8 W')=>(show Calls Tryz.prog 25 #[.pointer (some ⟨b1,0,none⟩)] W' (fun e w'=>e= .returned (.string s1.trap)∧Below W'.heap.size W' w')from trap_any b1 v1 _ _ W' (((HO1.out.1.tw.m1.ext H7.out.2.2).ext H8.out.2.2).ext B)))
      have TB:=zhd (fun W' (B:Below w8.heap.size w8 W')=>(show Calls Tryz.prog 25 #[.pointer (some ⟨b2,0,none⟩)] W' (fun e w'=>e= .returned (.string s1.trap)∧Below W'.heap.size W' w')from HO1.out.2.2.2.1▸trap_any b2 v2 _ _ W' (((HO1.out.1.tw.m2.ext H7.out.2.2).ext H8.out.2.2).ext B)))
      have HR:=zh4 X1 h8r BW8 (show T≤700000 by have h1:=HO1.out.2.1;have h2:=HO1.out.2.2.2.2.2;omega)
      clear X1 h8r BW8 M2 H7 H8
      go_wp2_with fail
      go_loopg [91] T (fun gk v91 wy=>OcRel w8 T gk v91 wy)
      case atStart=>exact⟨0,rfl,Nat.zero_le _,rfl,Below.refl _ _⟩
      case round=>
       obtain⟨k,rfl,hk,hgk,hB⟩:=hrel
       by_cases hkn:k<T
       ·obtain⟨c0,hc0⟩:=elem_at (l:=s1.made) (k:=k) (by rw[←HO1.out.2.2.2.2.2];exact hkn)
        have hc:(s1.made.map cloneC)[k]? =some (cloneC c0):=by rw[List.getElem?_map,hc0];rfl
        obtain⟨g1,o1,⟨ck,ct,ca,cb,cn,⟨vk,vn,vs,la,ln,lc⟩⟩,rfl,hg1,hr1,_,hs1⟩:=HR.out.1.at_ hc
        obtain⟨g2,o2,⟨dk,dt,da,db,dn,⟨ek,en2,es,ma,mn,mc⟩⟩,rfl,hg2,hr2,_,hs2⟩:=HR.out.2.1.at_ hc
        have hr1':CmF (fun g=>wo.heap.size≤g) w8 ⟨ck,ct,ca,cb,cn,⟨vk,vn,vs,la,ln,lc⟩⟩ (cloneC c0):=hr1
        have hr2':CmF (fun g=>w7.heap.size≤g) w8 ⟨dk,dt,da,db,dn,⟨ek,en2,es,ma,mn,mc⟩⟩ (cloneC c0):=hr2
        obtain rfl:dk=ck:=hr2'.kind.trans hr1'.kind.symm
        obtain rfl:dt=ct:=hr2'.time.trans hr1'.time.symm
        obtain rfl:da=ca:=hr2'.a.trans hr1'.a.symm
        obtain rfl:db=cb:=hr2'.b.trans hr1'.b.symm
        obtain rfl:dn=cn:=hr2'.name.trans hr1'.name.symm
        have m0:w8.cell? ⟨g1,o1+k*9,none⟩=some (.int .i64 dk):=hs1 0 _ rfl
        have m1:w8.cell? ⟨g1,o1+k*9+1,none⟩=some (.int .i64 dt):=hs1 1 _ rfl
        have m2:w8.cell? ⟨g1,o1+k*9+2,none⟩=some (.int .i64 da):=hs1 2 _ rfl
        have m3:w8.cell? ⟨g1,o1+k*9+3,none⟩=some (.int .i64 db):=hs1 3 _ rfl
        have m4:w8.cell? ⟨g1,o1+k*9+4,none⟩=some (.string dn):=hs1 4 _ rfl
        have m5:w8.cell? ⟨g1,o1+k*9+5,none⟩=some (.int .i64 vk):=hs1 5 _ rfl
        have m6:w8.cell? ⟨g1,o1+k*9+6,none⟩=some (.int .i64 vn):=hs1 6 _ rfl
        have m7:w8.cell? ⟨g1,o1+k*9+7,none⟩=some (.string vs):=hs1 7 _ rfl
        have m8:w8.cell? ⟨g1,o1+k*9+8,none⟩=some (.slice la ln lc):=hs1 8 _ rfl
        have n0:w8.cell? ⟨g2,o2+k*9,none⟩=some (.int .i64 dk):=hs2 0 _ rfl
        have n1:w8.cell? ⟨g2,o2+k*9+1,none⟩=some (.int .i64 dt):=hs2 1 _ rfl
        have n2:w8.cell? ⟨g2,o2+k*9+2,none⟩=some (.int .i64 da):=hs2 2 _ rfl
        have n3:w8.cell? ⟨g2,o2+k*9+3,none⟩=some (.int .i64 db):=hs2 3 _ rfl
        have n4:w8.cell? ⟨g2,o2+k*9+4,none⟩=some (.string dn):=hs2 4 _ rfl
        have n5:w8.cell? ⟨g2,o2+k*9+5,none⟩=some (.int .i64 ek):=hs2 5 _ rfl
        have n6:w8.cell? ⟨g2,o2+k*9+6,none⟩=some (.int .i64 en2):=hs2 6 _ rfl
        have n7:w8.cell? ⟨g2,o2+k*9+7,none⟩=some (.string es):=hs2 7 _ rfl
        have n8:w8.cell? ⟨g2,o2+k*9+8,none⟩=some (.slice ma mn mc):=hs2 8 _ rfl
        rw[←hB.cell (p:=⟨g1,_,none⟩) hg1]at m0 m1 m2 m3 m4 m5 m6 m7 m8
        rw[←hB.cell (p:=⟨g2,_,none⟩) hg2]at n0 n1 n2 n3 n4 n5 n6 n7 n8
        have l1:g1<wr.heap.size:=Nat.lt_of_lt_of_le hg1 hB.size
        have l2:g2<wr.heap.size:=Nat.lt_of_lt_of_le hg2 hB.size
        have CS:=zhd (fun W' (B:Below wr.heap.size wr W')=>csame dk dt da db dn (cloneC c0).v ⟨vk,vn,vs,la,ln,lc⟩ ⟨ek,en2,es,ma,mn,mc⟩ _ _ W' (hr1'.keep2 (hB.trans (B.mono hB.size))).v (hr2'.keep2 (hB.trans (B.mono hB.size))).v)
        have hkn':(k:Int)<T:=by omega
        have HWK:=zhd (show wrap64 ((k:Int)+1)=(k:Int)+1 by have:=HR.out.2.2.2;unfold wrap64;omega)
        have HK2:=zh3 hB hgk hkn
        clear hc hc0 hr1 hr2 hr1' hr2' hs1 hs2 hB hgk hkn hg1 hg2
        go_upto_region 28 with(fail)
        refine wp_region_ext (by kernel_rfl) (by kernel_rfl) ?_
        repeat(go_big_quiet_step ((go_at_call 27;exact ext_call (CS.out _ (ext_below _)))))
        refine wpQuiet_nil ?_
        intro wz hBz
        have HBz:=zhd (HK2.out.1.trans (hBz.mono HK2.out.1.size))
        clear hBz
        go_wp2_with fail
        go_roundg (T - (k+1))
        case measure=>have:=HK2.out.2.1;have:=HK2.out.2.2;omega
        case rel=>exact⟨k+1,by first|(simp;done)|(simp;exact HWK.out),HK2.out.2.2,rfl,HBz.out⟩
       ·obtain rfl:k=T:=by omega
        have hkk:¬(k:Int)<k:=by omega
        have HE:=zh2 hB (HR.out.2.2.1.trans (hB.mono HR.out.2.2.1.size))
        clear hB hgk
        go_wp2_with fail
        refine(TA.out _ HE.out.1).mono ?_
        rintro e wx ⟨rfl,hBx⟩
        have HX:=zh2 (HE.out.1.trans (hBx.mono HE.out.1.size)) (HE.out.2.trans (hBx.mono HE.out.2.size))
        clear hBx
        go_wp2_with fail
        refine(TB.out _ HX.out.1).mono ?_
        rintro e wy ⟨rfl,hBy⟩
        have HY:=zhd (HX.out.2.trans (hBy.mono HX.out.2.size))
        clear hBy
        go_wp2_with fail
        go_ret
        exact⟨by simp,HY.out⟩
end Go.Proofs.YtakljipkaoahnaaGreatDoor
