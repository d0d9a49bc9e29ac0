/- Parts of the proof: what the functions and the plain laws give that later parts lean on. Conditions: none beyond those that each theorem names. -/
import Derived.Test.YtakljipkaoahnaaGreatDoorA18
set_option maxRecDepth 100000
set_option maxHeartbeats 8000000
namespace Go.Proofs.YtakljipkaoahnaaGreatDoor
open Go.RowKit Go.Own Go.Own.MapTy Go.Va Go.Sort
open Go.Own.Cells (sz enc)
def tidyS (p:Img)(c:In)(st:RSt):RSt:=
 bif (ofL c.op).1.operand==1 then
  let q:=addV (cloneV (p.consts[c.a.toNat]?.getD vNil)) st.consts
  {st with consts:=q.2,code:=st.code++[⟨c.op,q.1⟩]}
 else bif (ofL c.op).1.operand==2 then
  let q:=addN (p.names[c.a.toNat]?.getD ⟨#[]⟩) st.names
  {st with names:=q.2,code:=st.code++[⟨c.op,q.1⟩]}
 else bif (ofL c.op).1.operand==3 then{st with places:=max st.places (c.a+1),code:=st.code++[c]}
 else{st with code:=st.code++[c]}
def tidyR (p:Img):List In→RSt→RSt
 |[],st=>st
 |c::r,st=>tidyR p r (tidyS p c st)
def tidyP (p:Img):Img×Int:=
 bif imgL p !=0 then(noImg,imgL p)else
 let q:=tidyR p p.code st0
 (⟨q.code,q.consts,q.names,q.places⟩,0)
def TdPost (w:World)(r:Img×Int)(e:Ending)(w':World):Prop:=∃i:IC,e= .returned (.tuple #[.agg i.cells,.int .i64 r.2])∧Hid (IAt (fun g=>w.heap.size≤g) w' i r.1∧Below w.heap.size w w')
theorem tidy_bad
  (F:Nat→Prop)(w:World)(i:IC)(p:Img)(H:IAt F w i p)(hw:∀x∈p.consts,x.wf)
  (r:Int)(hb:imgL p=r)(hr:(r !=0)=true):
  Calls Tryz.prog 32 #[.agg #[.slice i.ca i.cn i.cc,.slice i.ka i.kn i.kc,.slice i.na i.nn i.nc,.int .i64 i.pl]] w (TdPost w (noImg,r)):=by
 obtain⟨ca,cn,cc,ka,kn,kc,na,nn,nc,pl⟩:=i
 have CK:=zhd (fun W (K:Below w.heap.size w W)=>imgcheck_any F W ⟨ca,cn,cc,ka,kn,kc,na,nn,nc,pl⟩ p (H.keep (S:=fun _=>False) (zkb K) (fun _ _ f=>f)) _ hw hb)
 dsimp only
 clear H hb hw
 go_enter Tryz.func32,Tryz.ntmps32
 go_wp2_with fail
 obtain⟨w0,hw0⟩:∃w0,w0=(w.alloc (.cells #[.slice ca cn cc,.slice ka kn kc,.slice na nn nc,.int .i64 pl] 27)).alloc (.cells #[.slice none 0 0,.slice none 0 0,.slice none 0 0,.int .i64 0] 27):=⟨_,rfl⟩
 have B0:Below w.heap.size w w0:=by rw[hw0];exact(zal).alloc (by simp) _
 have h0:w0.heap[w.heap.size+1]? =some (.cells #[.slice none 0 0,.slice none 0 0,.slice none 0 0,.int .i64 0] 27 (0,0)):=by rw[hw0];exact at_new (by simp)
 rw[←hw0]
 clear hw0
 refine(CK.out _ B0).mono ?_
 rintro e w1 ⟨rfl,hB1⟩
 have h1:=(hB1.block _ (zlt h0)).trans h0
 have d0:=zca h1 0 rfl
 have d1:=zca h1 1 rfl
 have d2:=zca h1 2 rfl
 have d3:=zca h1 3 rfl
 have fz:∀o,w1.frozen? ⟨w.heap.size+1,o,none⟩=false:=fun o=>zfr h1 o
 have lt1:w.heap.size+1<w1.heap.size:=zlt h1
 have HB:=zhd (B0.trans (hB1.mono B0.size))
 clear h0 h1 hB1 B0
 go_wp2_with fail
 refine bodyPost_ret (v:=.tuple #[.agg #[.slice none 0 0,.slice none 0 0,.slice none 0 0,.int .i64 0],.int .i64 r]) (by simp only[results,Tryz.results32];go_simp) rfl ⟨⟨none,0,0,none,0,0,none,0,0,0⟩,rfl,zhd ⟨iat_none _ _,HB.out.trans ?_⟩⟩
 repeat(first|exact Below.refl _ _|refine Below.setCell ?_ (by first|(simp;done)|(simp;omega)) _)
def vn0:RV:=⟨.slice none 0 0,.slice none 0 0,.slice none 0 0,.slice none 0 0,0,none⟩
theorem rx_none {Z:Nat→Prop}{W:World}{b:Nat}(hb:W.heap[b]? =some (.cells #[.slice none 0 0,.slice none 0 0,.slice none 0 0,.int .i64 0,.map none,.slice none 0 0] 85 (0,0))):RX Z W b vn0 st0:=
 ⟨hb,RowAt.nil _ _,VRow.nil _ _ _,RowAt.nil _ _,RowAt.nil _ _,rfl,(fun m h=>by cases h),⟨(fun j h=>by cases h),(fun j h=>by cases h),(fun j h=>by cases h),(fun j h=>by cases h),(fun j h=>by cases h)⟩⟩
def TdC (b:Nat)(p:Img)(q:RSt)(i:Nat)(cop:Int)(v:RV)(wr wx:World):Prop:=
 ∃v1 st1 av,Hid (RX (fun j=>b≤j) wx b v1 st1∧RK b v wr v1 wx∧wx.heap[wr.heap.size]? =some (.cells #[.int .i64 cop,.int .i64 av] 43 (0,0))∧
  tidyR p (p.code.drop (i+1)) {st1 with code:=st1.code++[⟨cop,av⟩]}=q∧st1.code.length≤i∧st1.consts.length≤i+1∧st1.names.length≤i+1∧0≤st1.places∧st1.places≤16)
theorem addN_le (s:ByteArray)(l:List ByteArray):(addN s l).2.length≤l.length+1:=by
 unfold addN
 split<;>simp
theorem addV_le (s:Val)(l:List Val):(addV s l).2.length≤l.length+1:=by
 unfold addV
 split<;>simp
theorem RX.ins {B b:Nat}{W:World}{v:RV}{st:RSt}{u:Value}(R:RX (fun j=>b≤j∧j≠B) W b v st)(hB:¬RO v b B):
  RX (fun j=>b≤j) (W.setCell ⟨B,1,none⟩ u) b v st∧(∀{v0:RV} {w0:World},RK b v0 w0 v W→w0.heap.size≤B→RK b v0 w0 v (W.setCell ⟨B,1,none⟩ u)):=by
 have KB:Keeps (fun j=>j=B) W (W.setCell ⟨B,1,none⟩ u):=Keeps.setCell (S:=fun j=>j=B) (p:=⟨B,1,none⟩) (Keeps.refl _ _) (.inl rfl) _
 refine⟨RS.monoZ (R.far KB (fun j e=>by rw[e];exact hB) (fun j e h=>h.2 e)) (fun j h _=>h.1),fun{v0 w0} K h=>⟨?_,K.2.1,K.2.2⟩⟩
 exact K.1.trans (KB.mono (fun j _ e=>(e:j=B))) (fun j hj e=>absurd hj (by omega))
theorem tidy_good
  (F:Nat→Prop)(w:World)(i:IC)(p:Img)(H:IAt F w i p)(hw:∀x∈p.consts,x.wf)
  (hb:imgL p=0)(q:RSt)(hq:tidyR p p.code st0=q):
  Calls Tryz.prog 32 #[.agg #[.slice i.ca i.cn i.cc,.slice i.ka i.kn i.kc,.slice i.na i.nn i.nc,.int .i64 i.pl]] w (TdPost w (⟨q.code,q.consts,q.names,q.places⟩,0)):=by
 obtain⟨ca,cn,cc,ka,kn,kc,na,nn,nc,pl⟩:=i
 have CK:=zhd (fun W (K:Below w.heap.size w W)=>imgcheck_any F W ⟨ca,cn,cc,ka,kn,kc,na,nn,nc,pl⟩ p (H.keep (S:=fun _=>False) (zkb K) (fun _ _ f=>f)) _ hw hb)
 have hl:=H.lens
 dsimp only at hl⊢
 have HA:=zh5 H hw hb hq hl
 clear H hb hw hq hl
 go_enter Tryz.func32,Tryz.ntmps32
 go_wp2_with fail
 obtain⟨w0,hw0⟩:∃w0,w0=(w.alloc (.cells #[.slice ca cn cc,.slice ka kn kc,.slice na nn nc,.int .i64 pl] 27)).alloc (.cells #[.slice none 0 0,.slice none 0 0,.slice none 0 0,.int .i64 0] 27):=⟨_,rfl⟩
 have B0:Below w.heap.size w w0:=by rw[hw0];exact(zal).alloc (by simp) _
 have h0:w0.heap[w.heap.size+1]? =some (.cells #[.slice none 0 0,.slice none 0 0,.slice none 0 0,.int .i64 0] 27 (0,0)):=by rw[hw0];exact at_new (by simp)
 have g0:w0.heap[w.heap.size]? =some (.cells #[.slice ca cn cc,.slice ka kn kc,.slice na nn nc,.int .i64 pl] 27 (0,0)):=by rw[hw0];exact(Below.heap_alloc _ _ _ (by simp)).trans (heap_alloc_new _ _)
 rw[←hw0]
 clear hw0
 refine(CK.out _ B0).mono ?_
 rintro e w1 ⟨rfl,hB1⟩
 have h1:=(hB1.block _ (zlt h0)).trans h0
 have g1:=(hB1.block _ (zlt g0)).trans g0
 have x0:=zca g1 0 rfl
 have lt1:w.heap.size+1<w1.heap.size:=zlt h1
 have HB:=zh3 (B0.trans (hB1.mono B0.size)) h1 g1
 have lt0:w.heap.size<w1.heap.size:=by omega
 clear h0 h1 hB1 B0 g0 g1 CK
 go_wp2_with fail
 go_loopg [20] (cn) (fun gk v20 wr=>∃i:Nat,v20= .int .i64 i∧i≤cn∧gk=cn - i∧Hid (∃v st,RX (fun j=>w1.heap.size≤j) wr w1.heap.size v st∧(∀j,RO v w1.heap.size j→w1.heap.size≤j)∧Below w1.heap.size w1 wr∧tidyR p (p.code.drop i) st=q∧st.code.length≤i∧st.consts.length≤i∧st.names.length≤i∧0≤st.places∧st.places≤16))
 case atStart=>exact⟨0,rfl,Nat.zero_le _,rfl,zhd ⟨vn0,st0,rx_none (at_new rfl),(fun j hj=>by rcases hj with e|e|e|e|e|e<;>first|exact Nat.le_of_eq e.symm|cases e),zal,HA.out.2.2.2.1,Nat.le_refl _,Nat.le_refl _,Nat.le_refl _,by decide,by decide⟩⟩
 case round=>
  obtain⟨i,rfl,hi,hgk,HR⟩:=hrel
  obtain⟨⟨vc,vk,vn,vj,vp,mb⟩,st,HR⟩:=HR.out
  have HR:=zhd HR
  have HG:=zhd hgk
  have l1:w1.heap.size<wr.heap.size:=zlt HR.out.1.h
  clear hgk x0
  by_cases hin:i<cn
  ·obtain⟨⟨cop,cav⟩,hx⟩:=elem_at (l:=p.code) (k:=i) (by have:=HA.out.2.2.2.2.1;omega)
   have hok:=(imgL_ok HA.out.2.2.1).2.2.2.2.2.2.2.2 _ (zmg hx)
   obtain⟨m,rfl⟩:∃m:Nat,cav=m:=⟨cav.toNat,by have:=hok.2.1;dsimp only at this;omega⟩
   have hdr:p.code.drop i=⟨cop,(m:Int)⟩::p.code.drop (i+1):=by
    rw[List.drop_eq_getElem_cons (zge hx).1,(zge hx).2]
   have htd:=HR.out.2.2.2.1
   rw[hdr,tidyR]at htd
   have BW:=HB.out.1.trans (HR.out.2.2.1.mono HB.out.1.size)
   obtain⟨g,off,ha,hel⟩:=HA.out.1.code.elems.2.2
   obtain⟨hFg,hg,hcs⟩:=hel i _ hx
   have ha:=ha.resolve_right (fun e=>by rw[e]at hx;simp at hx)
   dsimp only at ha
   subst ha
   have m0:=hcs 0 _ rfl
   have m1:=hcs 1 _ rfl
   rw[show off+(i*sz In+0)=off+i*2 from rfl,←BW.cell (p:=⟨g,_,none⟩) hg]at m0
   rw[show off+(i*sz In+1)=off+i*2+1 from rfl,←BW.cell (p:=⟨g,_,none⟩) hg]at m1
   have hin':(i:Int)<cn:=by omega
   obtain⟨inf,ok,hof⟩:∃inf ok,ofL cop=(inf,ok):=⟨_,_,rfl⟩
   have OF:=zhd (fun W=>of_rule cop inf ok hof W)
   have HWK:=zhd (show wrap64 ((i:Int)+1)=(i:Int)+1 from by have a1:=HA.out.2.2.2.2.1;have a2:=(imgL_ok HA.out.2.2.1).2.1;unfold wrap64;omega)
   have HTD:=zh4 htd hof hok BW
   obtain⟨nm,io,ii,jo,bb,be,bf⟩:=inf
   dsimp only at m0 m1 OF
   clear hcs hel hdr hof hok htd hx BW
   go_wp2_with fail
   refine(OF.out _).mono ?_
   rintro e w5 ⟨rfl,hB5⟩
   have lt5:wr.heap.size<w5.heap.size:=by have:=hB5.size;simp at this;omega
   have hin5:w5.heap[wr.heap.size]? =some (.cells #[.int .i64 cop,.int .i64 (m:Int)] 43 (0,0)):=(hB5.block _ (by simp)).trans (heap_alloc_new _ _)
   obtain⟨w6,hw6⟩:∃w6,w6=w5.alloc (.cells #[.string nm,.int .i64 io,.int .i64 ii,.int .i64 jo,.bool bb,.bool be,.bool bf] 148):=⟨_,rfl⟩
   have B5:Below wr.heap.size wr w5:=(zal).trans (hB5.mono (by simp))
   have BE:Below wr.heap.size wr w6:=by rw[hw6];exact B5.alloc B5.size _
   have hin6:w6.heap[wr.heap.size]? =some (.cells #[.int .i64 cop,.int .i64 (m:Int)] 43 (0,0)):=by rw[hw6];exact(Below.heap_alloc _ _ _ lt5).trans hin5
   go_upto_block 2 with(fail)
   rw[←hw6]
   have i1:=zca hin6 1 rfl
   have if6:∀o,w6.frozen? ⟨wr.heap.size,o,none⟩=false:=fun o=>zfr hin6 o
   have lt6:wr.heap.size<w6.heap.size:=zlt hin6
   have BW6:=HTD.out.2.2.2.trans (BE.mono HTD.out.2.2.2.size)
   have g6:=(BE.block _ (by have:=HB.out.1.size;have:=HR.out.2.2.1.size;omega)).trans ((HR.out.2.2.1.block _ lt0).trans HB.out.2.2)
   have H6:=zh5 (HR.out.1.ext BE) BE hin6 BW6 g6
   clear hw6 hB5 hin5 B5 OF lt5 BE hin6 BW6 g6
   go_cut [] (fun wx=>TdC w1.heap.size p q i cop ⟨vc,vk,vn,vj,vp,mb⟩ wr wx)
   case first=>
    have HL:=zh3 HR.out.2.2.2.2.1 HR.out.2.2.2.2.2.1 HR.out.2.2.2.2.2.2
    by_cases o1:io=1
    ·subst o1
     as_aux_lemma=>
      have hm:m<p.consts.length:=by have h:=HTD.out.2.2.1.2.2;rw[HTD.out.2.1]at h;simp[mostL]at h;exact h
      obtain⟨y,hy⟩:=elem_at (l:=p.consts) hm
      have hsz:=const_sz HA.out.2.2.1 y (zmg hy)
      obtain⟨hkn,_,hel⟩:=HA.out.1.consts.elems
      obtain⟨g2,off2,ha2,hFg2,hg2,hce⟩:=hel.resolve_left (fun e=>by rw[e]at hm;simp at hm)
      obtain⟨d,hD,n0,n1,n2,n3⟩:=hce m y hy
      dsimp only at ha2 hkn
      subst ha2
      have BW6:=H6.out.2.2.2.1
      rw[←BW6.cell (p:=⟨g2,_,none⟩) hg2]at n0 n1 n2 n3
      have hg6:g2<w6.heap.size:=Nat.lt_of_lt_of_le hg2 BW6.size
      have x1:=zca H6.out.2.2.2.2 1 rfl
      have lt8:w.heap.size<w6.heap.size:=zlt H6.out.2.2.2.2
      have hmk:(m:Int)<kn:=by omega
      have CL:=zhd (clone_any y d.kind d.n d.s d.la d.ln d.lc F w6 (hD.keep (S:=fun _=>False) (zkb BW6) (fun _ _ f=>f)) (by omega))
      have hE:(addV (cloneV y) st.consts).2.length≤i+1:=Nat.le_trans (addV_le _ _) (by have:=HL.out.2.1;omega)
      have HE:=zhd (show tidyR p (p.code.drop (i+1)) {st with consts:=(addV (cloneV y) st.consts).2,code:=st.code++[⟨cop,((addV (cloneV y) st.consts).1:Nat)⟩]}=q∧(addV (cloneV y) st.consts).2.length≤i+1 from by
       refine⟨?_,hE⟩
       have h:=HTD.out.1
       unfold tidyS at h
       rw[HTD.out.2.1]at h
       simp only[Int.toNat_natCast,hy,Option.getD_some,beq_self_eq_true,cond_true]at h
       exact h)
      clear hce hel hD hsz hy hm hE hkn BW6 hg2
      go_wp2_with fail
      refine CL.out.mono ?_
      rintro e w7 ⟨⟨k7,n7,s7,la7,ln7,lc7⟩,rfl,H7⟩
      dsimp only
      have R7:=RS.monoZ (Z':=fun j=>w1.heap.size≤j∧j≠wr.heap.size) HR.out.1 (fun j h l=>⟨h,by omega⟩)
      have B7:=H6.out.2.1.trans (H7.out.2.mono (Nat.le_of_lt lt6))
      have nB:¬RO ⟨vc,vk,vn,vj,vp,mb⟩ w1.heap.size wr.heap.size:=fun e=>by have:=HR.out.1.lt e;omega
      have C7:CF (fun j=>¬RO ⟨vc,vk,vn,vj,vp,mb⟩ w1.heap.size j∧(w1.heap.size≤j∧j≠wr.heap.size)) w7 ⟨k7,n7,s7,la7,ln7,lc7⟩ (cloneV y):=H7.out.1.mono (fun j hj _=>⟨fun e=>by have:=HR.out.1.lt e;omega,by omega,by omega⟩)
      have RV7:=zhd (rvalue_any w1.heap.size ⟨vc,vk,vn,vj,vp,mb⟩ st (cloneV y) k7 n7 s7 la7 ln7 lc7 w7 (R7.ext B7) C7 (by have:=HL.out.2.1;have:=HA.out.2.2.2.2.1;have:=(imgL_ok HA.out.2.2.1).2.1;omega) (addV (cloneV y) st.consts).1 (addV (cloneV y) st.consts).2 rfl)
      have HB7:=zh2 B7 nB
      have hi7:=(H7.out.2.block _ lt6).trans H6.out.2.2.1
      have HI7:=zhd hi7
      clear R7 B7 nB C7 H7 CL n0 n1 n2 n3 x1 i1 if6 hi7
      go_wp2_with fail
      refine RV7.out.mono ?_
      rintro e w8 ⟨v8,rfl,H8⟩
      have hi8:=(H8.out.2.1.block _ (zlt HI7.out) HB7.out.2).trans HI7.out
      have i1:=zca hi8 1 rfl
      have if8:∀o,w8.frozen? ⟨wr.heap.size,o,none⟩=false:=fun o=>zfr hi8 o
      have lt8:wr.heap.size<w8.heap.size:=zlt hi8
      have HI8:=zhd hi8
      have nB8:¬RO v8 w1.heap.size wr.heap.size:=fun e=>(H8.out.2.2.1 _ e).elim HB7.out.2 (fun h=>by have:=zlt HI7.out;omega)
      have S:=RX.ins (u:=.int .i64 ((addV (cloneV y) st.consts).1:Nat)) H8.out.1 nB8
      have HS:=zh2 S.1 (S.2 ((RK.ext HB7.out.1).trans H8.out.2) (Nat.le_refl _))
      clear S nB8 hi8 RV7 H8
      go_wp2_with fail
      go_meet
      case rel=>exact⟨v8,{st with consts:=(addV (cloneV y) st.consts).2},((addV (cloneV y) st.consts).1:Nat),zhd ⟨HS.out.1,HS.out.2,by simp[World.setCell,Array.getElem?_modify,HI8.out],HE.out.1,HL.out.1,HE.out.2,Nat.le_succ_of_le HL.out.2.2.1,HL.out.2.2.2.1,HL.out.2.2.2.2⟩⟩
    ·by_cases o2:io=2
     ·subst o2
      as_aux_lemma=>
       have hm:m<p.names.length:=by have h:=HTD.out.2.2.1.2.2;rw[HTD.out.2.1]at h;simp[mostL]at h;exact h
       obtain⟨y,hy⟩:=elem_at (l:=p.names) hm
       obtain⟨hkn,_,hel⟩:=HA.out.1.names.elems
       obtain⟨g2,off2,ha2,hFg2,hg2,hce⟩:=HA.out.1.names.at_ hy
       have n0:=hce 0 _ rfl
       dsimp only at ha2 hkn
       subst ha2
       have BW6:=H6.out.2.2.2.1
       rw[show off2+(m*sz ByteArray+0)=off2+m from by show off2+(m*1+0)=off2+m;omega,←BW6.cell (p:=⟨g2,_,none⟩) hg2]at n0
       have hg6:g2<w6.heap.size:=Nat.lt_of_lt_of_le hg2 BW6.size
       have x2:=zca H6.out.2.2.2.2 2 rfl
       have lt8:w.heap.size<w6.heap.size:=zlt H6.out.2.2.2.2
       have hmk:(m:Int)<nn:=by omega
       have hE:(addN y st.names).2.length≤i+1:=Nat.le_trans (addN_le _ _) (by have:=HL.out.2.2.1;omega)
       have HE:=zhd (show tidyR p (p.code.drop (i+1)) {st with names:=(addN y st.names).2,code:=st.code++[⟨cop,((addN y st.names).1:Nat)⟩]}=q∧(addN y st.names).2.length≤i+1 from by
        refine⟨?_,hE⟩
        have h:=HTD.out.1
        unfold tidyS at h
        rw[HTD.out.2.1]at h
        simp only[Int.toNat_natCast,hy,Option.getD_some,beq_self_eq_true,cond_true,show((2:Int)==1)=false from rfl,cond_false]at h
        exact h)
       have R7:=RS.monoZ (Z':=fun j=>w1.heap.size≤j∧j≠wr.heap.size) HR.out.1 (fun j h l=>⟨h,by omega⟩)
       have nB:¬RO ⟨vc,vk,vn,vj,vp,mb⟩ w1.heap.size wr.heap.size:=fun e=>by have:=HR.out.1.lt e;omega
       have RV7:=zhd (name_any w1.heap.size ⟨vc,vk,vn,vj,vp,mb⟩ st y w6 (R7.ext H6.out.2.1) (by have:=HL.out.2.2.1;have:=HA.out.2.2.2.2.1;have:=(imgL_ok HA.out.2.2.1).2.1;omega) (addN y st.names).1 (addN y st.names).2 rfl)
       have HB7:=zhd nB
       clear hce hel hy hm hE hkn BW6 hg2 R7 nB
       go_wp2_with fail
       refine RV7.out.mono ?_
       rintro e w8 ⟨v8,rfl,H8⟩
       have hi8:=(H8.out.2.1.block _ lt6 HB7.out).trans H6.out.2.2.1
       clear i1 if6
       have i1:=zca hi8 1 rfl
       have if8:∀o,w8.frozen? ⟨wr.heap.size,o,none⟩=false:=fun o=>zfr hi8 o
       have lt9:wr.heap.size<w8.heap.size:=zlt hi8
       have HI8:=zhd hi8
       have nB8:¬RO v8 w1.heap.size wr.heap.size:=fun e=>(H8.out.2.2.1 _ e).elim HB7.out (fun h=>by omega)
       have S:=RX.ins (u:=.int .i64 ((addN y st.names).1:Nat)) H8.out.1 nB8
       have HS:=zh2 S.1 (S.2 ((RK.ext H6.out.2.1).trans H8.out.2) (Nat.le_refl _))
       clear S nB8 hi8 RV7 H8
       go_wp2_with fail
       go_meet
       case rel=>exact⟨v8,{st with names:=(addN y st.names).2},((addN y st.names).1:Nat),zhd ⟨HS.out.1,HS.out.2,by simp[World.setCell,Array.getElem?_modify,HI8.out],HE.out.1,HL.out.1,Nat.le_succ_of_le HL.out.2.1,HE.out.2,HL.out.2.2.2.1,HL.out.2.2.2.2⟩⟩
     ·by_cases o3:io=3
      ·subst o3
       as_aux_lemma=>
        have hm:(m:Int)<p.places:=by have h:=HTD.out.2.2.1.2.2;rw[HTD.out.2.1]at h;simpa[mostL]using h
        have hp16:=(imgL_ok HA.out.2.2.1).2.2.2.2.2.1
        have HE:=zhd (show tidyR p (p.code.drop (i+1)) {st with places:=max st.places ((m:Int)+1),code:=st.code++[⟨cop,(m:Int)⟩]}=q from by
         have h:=HTD.out.1
         unfold tidyS at h
         rw[HTD.out.2.1]at h
         simp only[beq_self_eq_true,cond_true,show((3:Int)==1)=false from rfl,show((3:Int)==2)=false from rfl,cond_false]at h
         exact h)
        have R6:=H6.out.1
        have c3:w6.cell? ⟨w1.heap.size,3,none⟩=some (.int .i64 st.places):=by rw[zch R6.h,←R6.pl];rfl
        have f0:∀o,w6.frozen? ⟨w1.heap.size,o,none⟩=false:=fun o=>zfr R6.h o
        have b1:w1.heap.size<w6.heap.size:=zlt R6.h
        have S:=R6.setPl (max st.places ((m:Int)+1))
        have hI:=(show(w6.setCell ⟨w1.heap.size,3,none⟩ (.int .i64 (max st.places ((m:Int)+1)))).heap[wr.heap.size]? =w6.heap[wr.heap.size]? from Below.heap_setCell _ _ _ _ (by show¬wr.heap.size=w1.heap.size;omega)).trans H6.out.2.2.1
        have HS:=zh3 S.1 ((RK.ext H6.out.2.1).trans S.2) hI
        have hp0:=HL.out.2.2.2.1
        have hp1:=HL.out.2.2.2.2
        have hmx:0≤max st.places ((m:Int)+1)∧max st.places ((m:Int)+1)≤16:=by omega
        have HMX:=zhd hmx
        clear S R6 hI hmx
        go_wp2_with fail
        go_meet
        case rel=>exact⟨_,_,_,zhd ⟨HS.out.1,HS.out.2.1,HS.out.2.2,HE.out,HL.out.1,Nat.le_succ_of_le HL.out.2.1,Nat.le_succ_of_le HL.out.2.2.1,HMX.out.1,HMX.out.2⟩⟩
      ·have _u:=trivial
       as_aux_lemma=>
        have n1:(io==1)=false:=beq_eq_false_iff_ne.2 o1
        have n2:(io==2)=false:=beq_eq_false_iff_ne.2 o2
        have n3:(io==3)=false:=beq_eq_false_iff_ne.2 o3
        have HE:=zhd (show tidyR p (p.code.drop (i+1)) {st with code:=st.code++[⟨cop,(m:Int)⟩]}=q from by
         have h:=HTD.out.1
         unfold tidyS at h
         rw[HTD.out.2.1]at h
         simp only[n1,n2,n3,cond_false]at h
         exact h)
        clear o1 o2 o3
        go_wp2_with fail
        go_meet
        case rel=>exact⟨_,st,m,zhd ⟨H6.out.1,RK.ext H6.out.2.1,H6.out.2.2.1,HE.out,HL.out.1,Nat.le_succ_of_le HL.out.2.1,Nat.le_succ_of_le HL.out.2.2.1,HL.out.2.2.2.1,HL.out.2.2.2.2⟩⟩
   case rest=>
    as_aux_lemma=>
     obtain⟨⟨xc,xk,xn,xj,xp,xm⟩,st1,av,HC⟩:=hcut
     obtain⟨za,zc,rfl⟩:∃a cap,xc= .slice a st1.code.length cap:=HC.out.1.code.slice
     have b0:w1.heap.size<wc.heap.size:=zlt HC.out.1.h
     have c0:=zca HC.out.1.h 0 rfl
     have f0:∀o,wc.frozen? ⟨w1.heap.size,o,none⟩=false:=fun o=>zfr HC.out.1.h o
     have j0:=zca HC.out.2.2.1 0 rfl
     have j1:=zca HC.out.2.2.1 1 rfl
     have lc0:wr.heap.size<wc.heap.size:=zlt HC.out.2.2.1
     have HBD:=zhd (show(st1.code.length+1)*16≤140737488355328∧st1.code.length+1≤maxLen from by have:=HC.out.2.2.2.2.1;have:=(imgL_ok HA.out.2.2.1).2.1;have:=HA.out.2.2.2.2.1;unfold maxLen;omega)
     have BA:∀X,Below wc.heap.size wc (wc.alloc X):=fun X=>zal
     clear i1 if6 lt6 H6
     go_wp2_with (at_builtin;go_must (refine wp_appW (α:=In) elemI rfl (.tmp 63) (.tmp 65) rfl (HC.out.1.code.alloc _) ⟨cop,av⟩ rfl rfl (heap_alloc_new _ _) HBD.out.1 HBD.out.2 ?_);intro a1 q1 w9 hr1 hk1 hf1;have hb9:=(hk1.block w1.heap.size (by simp;omega) (fun e=>(HC.out.1.sep.c _ e).1 rfl)).trans ((Below.heap_alloc _ _ _ b0).trans HC.out.1.h);have c9:w9.cell? ⟨w1.heap.size,0,none⟩=some (.slice za st1.code.length zc):=(by rw[zch hb9];rfl);have f9:∀o,w9.frozen? ⟨w1.heap.size,o,none⟩=false:=(fun o=>zfr hb9 o);have l9:w1.heap.size<w9.heap.size:=zlt hb9;have FF:=zh3 hr1 hk1 hf1;clear hr1 hk1 hf1 hb9)
     have S:=(HC.out.1.ext (BA _)).setCode FF.out.1 FF.out.2.1 FF.out.2.2
     have HS:=zh2 S.1 (HC.out.2.1.trans ((RK.ext (BA _)).trans S.2))
     clear S
     go_roundg (cn - (i+1))
     case measure=>have:=HG.out;omega
     case rel=>
      refine⟨i+1,by simp[HWK.out],by omega,rfl,zhd ⟨_,_,HS.out.1,fun j hj=> ?_,HR.out.2.2.1.trans (HS.out.2.1.below (Nat.le_of_lt l1) (fun j hj e=>by have:=HR.out.2.1 j e;omega)),HC.out.2.2.2.1,?_⟩⟩
      ·rcases HS.out.2.2.1 j hj with e|e
       ·exact HR.out.2.1 j e
       ·omega
      ·refine⟨?_,HC.out.2.2.2.2.2⟩
       have:=HC.out.2.2.2.2.1
       simp
       omega
  ·obtain rfl:i=cn:=by omega
   obtain⟨a1,c1,hv1⟩:=HR.out.1.code.slice
   obtain⟨a2,c2,hv2⟩:=HR.out.1.consts.slice
   obtain⟨a3,c3,hv3⟩:=HR.out.1.names.slice
   have hp:=HR.out.1.pl
   dsimp only at hv1 hv2 hv3 hp
   subst hv1 hv2 hv3 hp
   have hst:st=q:=by
    have h:=HR.out.2.2.2.1
    rw[List.drop_eq_nil_of_le (by have:=HA.out.2.2.2.2.1;omega),tidyR]at h
    exact h
   subst hst
   have e0:=zca HR.out.1.h 0 rfl
   have e1:=zca HR.out.1.h 1 rfl
   have e2:=zca HR.out.1.h 2 rfl
   have e3:=zca HR.out.1.h 3 rfl
   have h1:=(HR.out.2.2.1.block _ lt1).trans HB.out.2.1
   have d0:=zca h1 0 rfl
   have d1:=zca h1 1 rfl
   have d2:=zca h1 2 rfl
   have d3:=zca h1 3 rfl
   have fz:∀o,wr.frozen? ⟨w.heap.size+1,o,none⟩=false:=fun o=>zfr h1 o
   have ltd:w.heap.size+1<wr.heap.size:=zlt h1
   clear h1
   go_wp2_with fail
   refine bodyPost_ret (v:=.tuple #[.agg #[.slice a1 st.code.length c1,.slice a2 st.consts.length c2,.slice a3 st.names.length c3,.int .i64 st.places],.int .i64 0]) (by simp only[results,Tryz.results32];go_simp) rfl ⟨⟨a1,st.code.length,c1,a2,st.consts.length,c2,a3,st.names.length,c3,st.places⟩,rfl,zhd ⟨?_,?_⟩⟩
   ·have I:IAt (fun g=>w1.heap.size≤g) wr ⟨a1,st.code.length,c1,a2,st.consts.length,c2,a3,st.names.length,c3,st.places⟩ ⟨st.code,st.consts,st.names,st.places⟩:=
     ⟨RdF.of_row HR.out.1.code (fun g hg=>HR.out.2.1 g (.inr (.inr (.inl hg)))),HR.out.1.consts.vf (G:=fun g=>w1.heap.size≤g) (fun g h=>h.2) (fun g hg=>HR.out.2.1 g (.inr (.inr (.inr (.inl hg))))),RdF.of_row HR.out.1.names (fun g hg=>HR.out.2.1 g (.inr (.inr (.inr (.inr (.inl hg)))))),rfl⟩
    refine IAt.mono (F:=fun g=>w1.heap.size≤g) (IAt.keep (S:=fun j=>j=w.heap.size+1) I ?_ (fun g (h:w1.heap.size≤g) e=>by have e':g=w.heap.size+1:=e;omega)) (fun g (h:w1.heap.size≤g) _=>(show w.heap.size≤g by omega))
    repeat(first|exact Keeps.refl _ _|refine Keeps.setCell ?_ (Or.inl (by show w.heap.size+1=w.heap.size+1;rfl)) _)
   ·refine(HB.out.1.trans (HR.out.2.2.1.mono (by omega))).trans ?_
    repeat(first|exact Below.refl _ _|refine Below.setCell ?_ (by first|(simp;done)|(simp;omega)) _)
end Go.Proofs.YtakljipkaoahnaaGreatDoor
namespace Go.Proofs.YtakljipkaoahnaaGreatDoor
open Go.RowKit Go.Own Go.Own.MapTy Go.Va Go.Sort
inductive Arg where
 |val (x:Val)
 |name (s:ByteArray)
 |place (n:Int)
 |int (n:Int)
def putI (m:Int×Arg)(st:RSt):RSt:=
 match m.2 with
 | .val x=>{st with consts:=(addV x st.consts).2,code:=st.code++[⟨m.1,((addV x st.consts).1:Nat)⟩]}
 | .name s=>{st with names:=(addN s st.names).2,code:=st.code++[⟨m.1,((addN s st.names).1:Nat)⟩]}
 | .place n=>{st with places:=max st.places (n+1),code:=st.code++[⟨m.1,n⟩]}
 | .int n=>{st with code:=st.code++[⟨m.1,n⟩]}
def putsI:List (Int×Arg)→RSt→RSt
 |[],st=>st
 |m::r,st=>putsI r (putI m st)
def imgOf (st:RSt):Img:=⟨st.code,st.consts,st.names,st.places⟩
def fitA (m:Int×Arg):Prop:=
 match m.2 with
 | .val _=>(ofL m.1).1.operand=1
 | .name _=>(ofL m.1).1.operand=2
 | .place n=>(ofL m.1).1.operand=3∧0≤n
 | .int _=>(ofL m.1).1.operand≠1∧(ofL m.1).1.operand≠2∧(ofL m.1).1.operand≠3
def tdRun:List In→Int→Int→Int→Option (Int×Int×Int)
 |[],c,n,p=>some (c,n,p)
 |x::r,c,n,p=>
  if(ofL x.op).1.operand=1 then(if c<x.a then none else tdRun r (if x.a=c then c+1 else c) n p)else
  if(ofL x.op).1.operand=2 then(if n<x.a then none else tdRun r c (if x.a=n then n+1 else n) p)else
  if(ofL x.op).1.operand=3 then tdRun r c n (if p<x.a+1 then x.a+1 else p)else tdRun r c n p
theorem tdRun_app:∀(l:List In) (x:In) (c n p c1 n1 p1:Int),tdRun l c n p=some (c1,n1,p1)→tdRun (l++[x]) c n p=tdRun [x] c1 n1 p1
 |[],x,c,n,p,c1,n1,p1,h=>by cases h;rfl
 |y::r,x,c,n,p,c1,n1,p1,h=>by
  rw[List.cons_append,tdRun]
  rw[tdRun]at h
  split
  ·rename_i h1
   rw[if_pos h1]at h
   split
   ·rename_i h2;rw[if_pos h2]at h;cases h
   ·rename_i h2;rw[if_neg h2]at h;exact tdRun_app r x _ _ _ _ _ _ h
  ·rename_i h1
   rw[if_neg h1]at h
   split
   ·rename_i h2
    rw[if_pos h2]at h
    split
    ·rename_i h3;rw[if_pos h3]at h;cases h
    ·rename_i h3;rw[if_neg h3]at h;exact tdRun_app r x _ _ _ _ _ _ h
   ·rename_i h2
    rw[if_neg h2]at h
    split
    ·rename_i h3;rw[if_pos h3]at h;exact tdRun_app r x _ _ _ _ _ _ h
    ·rename_i h3;rw[if_neg h3]at h;exact tdRun_app r x _ _ _ _ _ _ h
structure TdOk (p:Img):Prop where
 run:tdRun p.code 0 0 0=some ((p.consts.length:Int),(p.names.length:Int),p.places)
 consts:∀(i k:Nat) (x y:Val),k<i→p.consts[i]? =some x→p.consts[k]? =some y→cloneV x≠cloneV y
 names:∀(i k:Nat) (x y:ByteArray),k<i→p.names[i]? =some x→p.names[k]? =some y→x≠y
theorem seekV_some {x:Val}:∀{l:List Val} {i j:Nat},seekV x l i=some j→∃y,i≤j∧l[j - i]? =some y∧cloneV x=cloneV y
 |[],_,_,h=>by cases h
 |y::r,i,j,h=>by
  rw[seekV]at h
  cases hc:(cmpV x y==0)with
  |true=>
   rw[hc]at h
   cases h
   exact⟨y,Nat.le_refl _,by simp,(cmp_zero x y).1 (by simpa using hc)⟩
  |false=>
   rw[hc]at h
   obtain⟨z,h1,h2,h3⟩:=seekV_some h
   refine⟨z,by omega,?_,h3⟩
   rw[show j - i=(j - (i+1))+1 by omega,List.getElem?_cons_succ]
   exact h2
theorem seekV_none {x:Val}:∀{l:List Val} {i:Nat},seekV x l i=none→∀y∈l,cloneV x≠cloneV y
 |[],_,_,y,hy=>by cases hy
 |z::r,i,h,y,hy=>by
  rw[seekV]at h
  cases hc:(cmpV x z==0)with
  |true=>rw[hc]at h;cases h
  |false=>
   rw[hc]at h
   rcases List.mem_cons.1 hy with rfl|hy
   ·intro e
    rw[(cmp_zero x y).2 e]at hc
    cases hc
   ·exact seekV_none h y hy
theorem seekN_some {x:ByteArray}:∀{l:List ByteArray} {i j:Nat},seekN x l i=some j→i≤j∧l[j - i]? =some x
 |[],_,_,h=>by cases h
 |y::r,i,j,h=>by
  rw[seekN]at h
  cases hc:(x.data.toList==y.data.toList)with
  |true=>
   rw[hc]at h
   cases h
   have e:x=y:=bytes_inj.1 (by simpa using hc)
   rw[e]
   exact⟨Nat.le_refl _,by simp⟩
  |false=>
   rw[hc]at h
   obtain⟨h1,h2⟩:=seekN_some h
   refine⟨by omega,?_⟩
   rw[show j - i=(j - (i+1))+1 by omega,List.getElem?_cons_succ]
   exact h2
theorem seekN_none {x:ByteArray}:∀{l:List ByteArray} {i:Nat},seekN x l i=none→∀y∈l,x≠y
 |[],_,_,y,hy=>by cases hy
 |z::r,i,h,y,hy=>by
  rw[seekN]at h
  cases hc:(x.data.toList==z.data.toList)with
  |true=>rw[hc]at h;cases h
  |false=>
   rw[hc]at h
   rcases List.mem_cons.1 hy with rfl|hy
   ·intro e
    rw[e]at hc
    simp at hc
   ·exact seekN_none h y hy
theorem addV_cases (x:Val)(l:List Val):(∃i y,addV x l=(i,l)∧l[i]? =some y∧cloneV x=cloneV y)∨(addV x l=(l.length,l++[x])∧∀y∈l,cloneV x≠cloneV y):=by
 unfold addV
 cases h:seekV x l 0 with
 |some i=>
  obtain⟨y,_,h2,h3⟩:=seekV_some h
  exact .inl ⟨i,y,rfl,h2,h3⟩
 |none=>exact .inr ⟨rfl,seekV_none h⟩
theorem addN_cases (x:ByteArray)(l:List ByteArray):(∃i,addN x l=(i,l)∧l[i]? =some x)∨(addN x l=(l.length,l++[x])∧∀y∈l,x≠y):=by
 unfold addN
 cases h:seekN x l 0 with
 |some i=>
  obtain⟨_,h2⟩:=seekN_some h
  exact .inl ⟨i,rfl,h2⟩
 |none=>exact .inr ⟨rfl,seekN_none h⟩
theorem lt_of_get {α:Type}{l:List α}{i:Nat}{x:α}(h:l[i]? =some x):i<l.length:=(zge h).1
theorem mem_of_get {α:Type}{l:List α}{i:Nat}{x:α}(h:l[i]? =some x):x∈l:=zmg h
theorem get_app_last {α:Type}{l:List α}{i:Nat}{x y:α}(h:(l++[x])[i]? =some y):l[i]? =some y∨(i=l.length∧y=x):=by
 by_cases hi:i<l.length
 ·rw[List.getElem?_append_left hi]at h;exact .inl h
 ·rw[List.getElem?_append_right (by omega)]at h
  have:=lt_of_get h
  simp at this
  have e:i=l.length:=by omega
  subst e
  simp at h
  exact .inr ⟨rfl,h.symm⟩
theorem tdOk_put {m:Int×Arg}{st:RSt}(h:TdOk (imgOf st))(hm:fitA m):TdOk (imgOf (putI m st)):=by
 obtain⟨op,a⟩:=m
 have hr:tdRun st.code 0 0 0=some ((st.consts.length:Int),(st.names.length:Int),st.places):=h.run
 cases a with
 |val x=>
  have hm:(ofL op).1.operand=1:=hm
  rcases addV_cases x st.consts with⟨i,y,h1,h2,h3⟩|⟨h1,h2⟩
  ·refine⟨?_,?_,h.names⟩
   ·show tdRun (st.code++[⟨op,((addV x st.consts).1:Nat)⟩]) 0 0 0=some (((addV x st.consts).2.length:Int),_,_)
    rw[tdRun_app _ _ _ _ _ _ _ _ hr,h1]
    have:=lt_of_get h2
    rw[tdRun,if_pos hm,if_neg (by show¬((st.consts.length:Int)<(i:Int));omega),if_neg (by show¬((i:Int)=st.consts.length);omega)]
    rfl
   ·show∀(i k:Nat) (a b:Val),k<i→(addV x st.consts).2[i]? =some a→(addV x st.consts).2[k]? =some b→_
    rw[h1]
    exact h.consts
  ·refine⟨?_,?_,h.names⟩
   ·show tdRun (st.code++[⟨op,((addV x st.consts).1:Nat)⟩]) 0 0 0=some (((addV x st.consts).2.length:Int),_,_)
    rw[tdRun_app _ _ _ _ _ _ _ _ hr,h1]
    rw[tdRun,if_pos hm,if_neg (by show¬((st.consts.length:Int)<(st.consts.length:Int));omega),if_pos rfl,tdRun]
    simp only[List.length_append,List.length_singleton]
    rfl
   ·show∀(i k:Nat) (a b:Val),k<i→(addV x st.consts).2[i]? =some a→(addV x st.consts).2[k]? =some b→_
    rw[h1]
    intro i k a b hk ha hb
    rcases get_app_last hb with hb2|⟨e,_⟩
    ·rcases get_app_last ha with ha2|⟨_,e1⟩
     ·exact h.consts i k a b hk ha2 hb2
     ·rw[e1];exact h2 b (mem_of_get hb2)
    ·rcases get_app_last ha with ha2|⟨e2,_⟩
     ·have:=lt_of_get ha2;omega
     ·omega
 |name x=>
  have hm:(ofL op).1.operand=2:=hm
  have n1:¬(ofL op).1.operand=1:=by omega
  rcases addN_cases x st.names with⟨i,h1,h2⟩|⟨h1,h2⟩
  ·refine⟨?_,h.consts,?_⟩
   ·show tdRun (st.code++[⟨op,((addN x st.names).1:Nat)⟩]) 0 0 0=some (_,((addN x st.names).2.length:Int),_)
    rw[tdRun_app _ _ _ _ _ _ _ _ hr,h1]
    have:=lt_of_get h2
    rw[tdRun,if_neg n1,if_pos hm,if_neg (by show¬((st.names.length:Int)<(i:Int));omega),if_neg (by show¬((i:Int)=st.names.length);omega)]
    rfl
   ·show∀(i k:Nat) (a b:ByteArray),k<i→(addN x st.names).2[i]? =some a→(addN x st.names).2[k]? =some b→_
    rw[h1]
    exact h.names
  ·refine⟨?_,h.consts,?_⟩
   ·show tdRun (st.code++[⟨op,((addN x st.names).1:Nat)⟩]) 0 0 0=some (_,((addN x st.names).2.length:Int),_)
    rw[tdRun_app _ _ _ _ _ _ _ _ hr,h1]
    rw[tdRun,if_neg n1,if_pos hm,if_neg (by show¬((st.names.length:Int)<(st.names.length:Int));omega),if_pos rfl,tdRun]
    simp only[List.length_append,List.length_singleton]
    rfl
   ·show∀(i k:Nat) (a b:ByteArray),k<i→(addN x st.names).2[i]? =some a→(addN x st.names).2[k]? =some b→_
    rw[h1]
    intro i k a b hk ha hb
    rcases get_app_last hb with hb2|⟨e,_⟩
    ·rcases get_app_last ha with ha2|⟨_,e1⟩
     ·exact h.names i k a b hk ha2 hb2
     ·rw[e1];exact h2 b (mem_of_get hb2)
    ·rcases get_app_last ha with ha2|⟨e2,_⟩
     ·have:=lt_of_get ha2;omega
     ·omega
 |place n=>
  have hm:(ofL op).1.operand=3∧0≤n:=hm
  refine⟨?_,h.consts,h.names⟩
  show tdRun (st.code++[⟨op,n⟩]) 0 0 0=some (_,_,max st.places (n+1))
  rw[tdRun_app _ _ _ _ _ _ _ _ hr,tdRun,if_neg (by show¬(ofL op).1.operand=1;omega),if_neg (by show¬(ofL op).1.operand=2;omega),if_pos hm.1,tdRun]
  by_cases hp:st.places<n+1
  ·rw[if_pos hp,Int.max_eq_right (by omega)];rfl
  ·rw[if_neg hp,Int.max_eq_left (by omega)];rfl
 |int n=>
  have hm:(ofL op).1.operand≠1∧(ofL op).1.operand≠2∧(ofL op).1.operand≠3:=hm
  refine⟨?_,h.consts,h.names⟩
  show tdRun (st.code++[⟨op,n⟩]) 0 0 0=some (_,_,_)
  rw[tdRun_app _ _ _ _ _ _ _ _ hr,tdRun,if_neg hm.1,if_neg hm.2.1,if_neg hm.2.2]
  rfl
theorem tdOk0:TdOk (imgOf st0):=⟨rfl,fun i k x y _ h _=>by simp[imgOf,st0]at h,fun i k x y _ h _=>by simp[imgOf,st0]at h⟩
theorem tdOk_puts:∀(l:List (Int×Arg)) (st:RSt),TdOk (imgOf st)→(∀m∈l,fitA m)→TdOk (imgOf (putsI l st))
 |[],_,h,_=>h
 |m::r,_,h,hl=>tdOk_puts r _ (tdOk_put h (hl m List.mem_cons_self)) (fun x hx=>hl x (List.mem_cons_of_mem _ hx))
def Means (consts:List Val)(names:List ByteArray)(c:In)(m:Int×Arg):Prop:=
 c.op=m.1∧match m.2 with
 | .val x=>∃i:Nat,∃y,c.a=i∧consts[i]? =some y∧cloneV y=cloneV x
 | .name s=>∃i:Nat,c.a=i∧names[i]? =some s
 | .place n=>c.a=n
 | .int n=>c.a=n
theorem Means.mono {k k':List Val}{n n':List ByteArray}{c:In}{m:Int×Arg}(h:Means k n c m)(hk:∀(i:Nat) x,k[i]? =some x→k'[i]? =some x)(hn:∀(i:Nat) x,n[i]? =some x→n'[i]? =some x):Means k' n' c m:=by
 obtain⟨op,a⟩:=m
 refine⟨h.1,?_⟩
 have h2:=h.2
 cases a with
 |val x=>obtain⟨i,y,e,hy,hc⟩:=h2;exact⟨i,y,e,hk i y hy,hc⟩
 |name s=>obtain⟨i,e,hy⟩:=h2;exact⟨i,e,hn i _ hy⟩
 |place n=>exact h2
 |int n=>exact h2
theorem put_mono (m:Int×Arg)(st:RSt):(∀(i:Nat) x,st.consts[i]? =some x→(putI m st).consts[i]? =some x)∧(∀(i:Nat) x,st.names[i]? =some x→(putI m st).names[i]? =some x):=by
 obtain⟨op,a⟩:=m
 cases a with
 |val x=>
  refine⟨?_,fun i y h=>h⟩
  show∀(i:Nat) y,st.consts[i]? =some y→(addV x st.consts).2[i]? =some y
  intro i y h
  rcases addV_cases x st.consts with⟨_,_,h1,_⟩|⟨h1,_⟩<;>rw[h1]
  ·exact h
  ·rw[List.getElem?_append_left (lt_of_get h)];exact h
 |name x=>
  refine⟨fun i y h=>h,?_⟩
  show∀(i:Nat) y,st.names[i]? =some y→(addN x st.names).2[i]? =some y
  intro i y h
  rcases addN_cases x st.names with⟨_,h1,_⟩|⟨h1,_⟩<;>rw[h1]
  ·exact h
  ·rw[List.getElem?_append_left (lt_of_get h)];exact h
 |place n=>exact⟨fun i y h=>h,fun i y h=>h⟩
 |int n=>exact⟨fun i y h=>h,fun i y h=>h⟩
theorem put_code (m:Int×Arg)(st:RSt):∃c,(putI m st).code=st.code++[c]∧Means (putI m st).consts (putI m st).names c m:=by
 obtain⟨op,a⟩:=m
 cases a with
 |val x=>
  refine⟨_,rfl,rfl,?_⟩
  show∃i:Nat,∃y,(((addV x st.consts).1:Nat):Int)=i∧(addV x st.consts).2[i]? =some y∧cloneV y=cloneV x
  rcases addV_cases x st.consts with⟨i,y,h1,h2,h3⟩|⟨h1,_⟩<;>rw[h1]
  ·exact⟨i,y,rfl,h2,h3.symm⟩
  ·exact⟨_,x,rfl,by simp,rfl⟩
 |name x=>
  refine⟨_,rfl,rfl,?_⟩
  show∃i:Nat,(((addN x st.names).1:Nat):Int)=i∧(addN x st.names).2[i]? =some x
  rcases addN_cases x st.names with⟨i,h1,h2⟩|⟨h1,_⟩<;>rw[h1]
  ·exact⟨i,rfl,h2⟩
  ·exact⟨_,rfl,by simp⟩
 |place n=>exact⟨_,rfl,rfl,rfl⟩
 |int n=>exact⟨_,rfl,rfl,rfl⟩
theorem puts_means:∀(l done:List (Int×Arg)) (st:RSt),st.code.length=done.length→(∀(i:Nat) c m,st.code[i]? =some c→done[i]? =some m→Means st.consts st.names c m)→
  (putsI l st).code.length=(done++l).length∧∀(i:Nat) c m,(putsI l st).code[i]? =some c→(done++l)[i]? =some m→Means (putsI l st).consts (putsI l st).names c m
 |[],done,st,h1,h2=>by rw[List.append_nil];exact⟨h1,h2⟩
 |m::r,done,st,h1,h2=>by
  have hh:=puts_means r (done++[m]) (putI m st) (by obtain⟨c,e,_⟩:=put_code m st;rw[e];simp[h1]) (fun i c m' hc hm=>by
   obtain⟨c0,e,hm0⟩:=put_code m st
   rw[e]at hc
   rcases get_app_last hc with hc|⟨e1,rfl⟩
   ·have hi:=lt_of_get hc
    rw[List.getElem?_append_left (by omega)]at hm
    exact(h2 i c m' hc hm).mono (put_mono m st).1 (put_mono m st).2
   ·subst e1
    rw[h1,List.getElem?_append_right (Nat.le_refl _)]at hm
    simp at hm
    subst hm
    exact hm0)
  rw[List.append_assoc,List.singleton_append]at hh
  exact hh
theorem means_all (l:List (Int×Arg)):(putsI l st0).code.length=l.length∧∀(i:Nat) c m,(putsI l st0).code[i]? =some c→l[i]? =some m→Means (putsI l st0).consts (putsI l st0).names c m:=by
 have:=puts_means l [] st0 rfl (fun i c m h=>by simp[st0]at h)
 simpa using this
theorem puts_mem:∀(l:List (Int×Arg)) (st:RSt),(∀x∈(putsI l st).consts,x∈st.consts∨∃op,(op,Arg.val x)∈l)∧(∀x∈(putsI l st).names,x∈st.names∨∃op,(op,Arg.name x)∈l)
 |[],st=>⟨fun x h=>.inl h,fun x h=>.inl h⟩
 |(op,a)::r,st=>by
  obtain⟨h1,h2⟩:=puts_mem r (putI (op,a) st)
  refine⟨fun x hx=> ?_,fun x hx=> ?_⟩
  ·rcases h1 x hx with h|⟨o,h⟩
   ·cases a with
    |val y=>
     have h:x∈(addV y st.consts).2:=h
     rcases addV_cases y st.consts with⟨_,_,e,_⟩|⟨e,_⟩<;>rw[e]at h
     ·exact .inl h
     ·rcases List.mem_append.1 h with h|h
      ·exact .inl h
      ·rw[List.mem_singleton]at h
       subst h
       exact .inr ⟨op,List.mem_cons_self⟩
    |name s=>exact .inl h
    |place n=>exact .inl h
    |int n=>exact .inl h
   ·exact .inr ⟨o,List.mem_cons_of_mem _ h⟩
  ·rcases h2 x hx with h|⟨o,h⟩
   ·cases a with
    |name y=>
     have h:x∈(addN y st.names).2:=h
     rcases addN_cases y st.names with⟨_,e,_⟩|⟨e,_⟩<;>rw[e]at h
     ·exact .inl h
     ·rcases List.mem_append.1 h with h|h
      ·exact .inl h
      ·rw[List.mem_singleton]at h
       subst h
       exact .inr ⟨op,List.mem_cons_self⟩
    |val s=>exact .inl h
    |place n=>exact .inl h
    |int n=>exact .inl h
   ·exact .inr ⟨o,List.mem_cons_of_mem _ h⟩
end Go.Proofs.YtakljipkaoahnaaGreatDoor
