/- Parts of the proof: what the functions and the plain laws give that later parts lean on. Conditions: none beyond those that each theorem names. -/
import Derived.Test.YtakljipkaoahnaaGreatDoorA17
set_option maxRecDepth 100000
set_option maxHeartbeats 8000000
namespace Go.Proofs.YtakljipkaoahnaaGreatDoor
open Go.RowKit Go.Own Go.Own.MapTy Go.Va Go.Sort
open Go.Own.Cells (sz enc)
def APrint (w:World)(r:ByteArray×Int)(e:Ending)(w':World):Prop:=e= .returned (.tuple #[.string r.1,.int .i64 r.2])∧Below w.heap.size w w'
theorem print_bad {N:Nat}
  (F:Nat→Prop)(w:World)(i:IC)(p:Img)(H:IAt F w i p)(G:Gl Tryz.prog N w)(hw:∀x∈p.consts,x.wf)
  (r:Int)(hb:imgL p=r)(hr:(r !=0)=true):
  Calls Tryz.prog 31 #[.agg #[.slice i.ca i.cn i.cc,.slice i.ka i.kn i.kc,.slice i.na i.nn i.nc,.int .i64 i.pl]] w (APrint w (⟨#[]⟩,r)):=by
 have _g:=G.n
 obtain⟨ca,cn,cc,ka,kn,kc,na,nn,nc,pl⟩:=i
 have CK:=zhd (fun W (K:Below w.heap.size w W)=>imgcheck_any F W ⟨ca,cn,cc,ka,kn,kc,na,nn,nc,pl⟩ p (H.keep (S:=fun _=>False) (zkb K) (fun _ _ f=>f)) _ hw rfl)
 dsimp only
 rw[hb]at CK
 have HB:=zhd (show Below w.heap.size w (w.alloc (.cells #[.slice ca cn cc,.slice ka kn kc,.slice na nn nc,.int .i64 pl] 27))from zal)
 clear H G hb hw
 go_enter Tryz.func31,Tryz.ntmps31
 go_wp2_with fail
 refine(CK.out _ HB.out).mono ?_
 rintro e w1 ⟨rfl,hB1⟩
 go_wp2_with fail
 go_ret2
 exact⟨rfl,HB.out.trans (hB1.mono (by simp))⟩
structure PrSt (F:Nat→Prop)(N:Nat)(w W:World)(bx mb:Nat)(i:IC)(p:Img):Prop where
 below:Below w.heap.size w W
 img:IAt F W i p
 gl:Gl Tryz.prog N W
 lab:MapAt Go.Va.LM W mb (labsL p.code)
 box:∀o,W.cell? ⟨bx,o,none⟩=(#[.slice i.ca i.cn i.cc,.slice i.ka i.kn i.kc,.slice i.na i.nn i.nc,.int .i64 i.pl]:Array Value)[o]?
 bxlt:bx<W.heap.size
 mblt:mb<W.heap.size
 ok:imgL p=0
 wf:∀x∈p.consts,x.wf
theorem pr_close {p:Img}{L:List (Int×ByteArray)}{k m:Nat}{op:Int}{r:List In}{l A tgt:List UInt8}(h:l++codeP p L k (⟨op,m⟩::r)=tgt)(hA:argP p L (ofL op).1.operand m=A):
  (((l++headP L k)++(⟨#[32,32]⟩++(ofL op).1.name:ByteArray).data.toList)++A)++[10]++codeP p L (k+1) r=tgt:=by
 rw[←h,codeP,lineP,←hA]
 simp only[Int.toNat_natCast,List.append_assoc]
theorem headP_len {code:List In}(h:code.length≤512)(k:Nat):(headP (labsL code) k).length≤24:=by
 unfold headP
 split
 ·rename_i s hs
  have:=lab_size h hs
  rw[Array.length_toList,ByteArray.size_data,ByteArray.size_append]
  show s.size+2≤24
  omega
 ·exact Nat.zero_le _
theorem two_len (s:ByteArray):(⟨#[32,32]⟩++s:ByteArray).data.toList.length=s.size+2:=by
 rw[Array.length_toList,ByteArray.size_data,ByteArray.size_append]
 show 2+s.size=_
 omega
theorem one_len (s:ByteArray):(⟨#[32]⟩++s:ByteArray).data.toList.length=s.size+1:=by
 rw[Array.length_toList,ByteArray.size_data,ByteArray.size_append]
 show 1+s.size=_
 omega
theorem print_good {N:Nat}
  (F:Nat→Prop)(w:World)(i:IC)(p:Img)(H:IAt F w i p)(G:Gl Tryz.prog N w)(hw:∀x∈p.consts,x.wf)
  (hb:imgL p=0):
  Calls Tryz.prog 31 #[.agg #[.slice i.ca i.cn i.cc,.slice i.ka i.kn i.kc,.slice i.na i.nn i.nc,.int .i64 i.pl]] w (APrint w (⟨(codeP p (labsL p.code) 0 p.code).toArray⟩,0)):=by
 obtain⟨ca,cn,cc,ka,kn,kc,na,nn,nc,pl⟩:=i
 have CK:=zhd (fun W (K:Below w.heap.size w W)=>imgcheck_any F W ⟨ca,cn,cc,ka,kn,kc,na,nn,nc,pl⟩ p (H.keep (S:=fun _=>False) (zkb K) (fun _ _ f=>f)) _ hw rfl)
 dsimp only
 rw[hb]at CK
 have LB:=zhd (fun W (K:Below w.heap.size w W)=>labels_any F W ⟨ca,cn,cc,ka,kn,kc,na,nn,nc,pl⟩ p (H.keep (S:=fun _=>False) (zkb K) (fun _ _ f=>f)) (G.below K) (by have:=(imgL_ok hb).2.1;omega))
 obtain⟨w0,hw0⟩:∃w0,w0=w.alloc (.cells #[.slice ca cn cc,.slice ka kn kc,.slice na nn nc,.int .i64 pl] 27):=⟨_,rfl⟩
 have B0:=zba hw0
 have q:∀o,w0.cell? ⟨w.heap.size,o,none⟩=(#[.slice ca cn cc,.slice ka kn kc,.slice na nn nc,.int .i64 pl]:Array Value)[o]? :=fun o=>by rw[hw0,zch (heap_alloc_new _ _)]
 have sz0:w0.heap.size=w.heap.size+1:=by rw[hw0];simp
 have hl:=H.lens
 dsimp only at hl
 have HA:=zh8 H G hw hb B0 q sz0 hl
 clear H G hw hb B0 q sz0 hl
 go_enter Tryz.func31,Tryz.ntmps31
 go_wp2_with fail
 rw[←hw0]
 clear hw0
 have q0:=fun o=>HA.out.2.2.2.2.2.1 o
 have x0:=q0 0
 have x1:=q0 1
 have x2:=q0 2
 have x3:=q0 3
 simp only[List.getElem?_toArray,List.getElem?_cons_zero,List.getElem?_cons_succ]at x0 x1 x2 x3
 have ltx:w.heap.size<w0.heap.size:=by have:=HA.out.2.2.2.2.2.2.1;omega
 clear q0
 go_wp2_with fail
 refine(CK.out _ HA.out.2.2.2.2.1).mono ?_
 rintro e w1 ⟨rfl,hB1⟩
 rw[←hB1.cell (p:=⟨w.heap.size,_,none⟩) ltx]at x0 x1 x2 x3
 have lt1:w.heap.size<w1.heap.size:=Nat.lt_of_lt_of_le ltx hB1.size
 have H1:=zh2 hB1 (HA.out.2.2.2.2.1.trans (hB1.mono (Nat.le_of_lt ltx)))
 clear hB1 CK ltx
 go_wp2_with fail
 refine(LB.out _ H1.out.2).mono ?_
 rintro e w2 ⟨mb,rfl,hmb,hM⟩
 have lt2:w.heap.size<w2.heap.size:=by have:=hM.out.2.size;omega
 have ltm:mb<w2.heap.size:=hM.out.1.lt
 have ST:=zhd (show PrSt F N w w2 w.heap.size mb ⟨ca,cn,cc,ka,kn,kc,na,nn,nc,pl⟩ p from
  have K:=H1.out.2.trans (hM.out.2.mono H1.out.2.size)
  ⟨K,HA.out.1.keep (S:=fun _=>False) (zkb K) (fun _ _ f=>f),HA.out.2.1.below K,hM.out.1,fun o=>((hM.out.2.cell (p:=⟨w.heap.size,o,none⟩) lt1).trans (H1.out.1.cell (p:=⟨w.heap.size,o,none⟩) (by have:=HA.out.2.2.2.2.2.2.1;show w.heap.size<w0.heap.size;omega))).trans (HA.out.2.2.2.2.2.1 o),lt2,ltm,HA.out.2.2.2.1,HA.out.2.2.1⟩)
 rw[←hM.out.2.cell (p:=⟨w.heap.size,_,none⟩) lt1]at x0 x1 x2 x3
 have HL:=HA.out.2.2.2.2.2.2.2
 have HL:=zhd HL
 clear hM LB H1 HA lt1 hmb
 go_wp2_with fail
 go_loopg [23] (cn) (fun gk v23 wr=>∃i:Nat,v23= .int .i64 i∧i≤cn∧gk=cn - i∧Hid (∃l,SB w2.heap.size l wr∧Below w2.heap.size w2 wr∧l++codeP p (labsL p.code) i (p.code.drop i)=codeP p (labsL p.code) 0 p.code∧l.length≤i*2147483648))
 case atStart=>exact⟨0,rfl,Nat.zero_le _,rfl,zhd ⟨[],SB.new _,zal,rfl,Nat.zero_le _⟩⟩
 case round=>
  obtain⟨k,rfl,hk,hgk,HR⟩:=hrel
  obtain⟨l,HR⟩:=HR.out
  have HR:=zhd HR
  have HG:=zhd hgk
  have ltr:w2.heap.size<wr.heap.size:=HR.out.1.lt
  clear hgk
  by_cases hkn:k<cn
  ·obtain⟨⟨cop,cav⟩,hx⟩:=elem_at (l:=p.code) (k:=k) (by have:=HL.out.1;omega)
   have hok:=(imgL_ok ST.out.ok).2.2.2.2.2.2.2.2 _ (zmg hx)
   obtain⟨m,rfl⟩:∃m:Nat,cav=m:=⟨cav.toNat,by have:=hok.2.1;dsimp only at this;omega⟩
   have hdr:p.code.drop k=⟨cop,(m:Int)⟩::p.code.drop (k+1):=by
    rw[List.drop_eq_getElem_cons (zge hx).1,(zge hx).2]
   obtain⟨g,off,ha,hel⟩:=ST.out.img.code.elems.2.2
   obtain⟨hFg,hg,hcs⟩:=hel k _ hx
   have ha:=ha.resolve_right (fun e=>by rw[e]at hx;simp at hx)
   dsimp only at ha
   subst ha
   have m0:=hcs 0 _ rfl
   have m1:=hcs 1 _ rfl
   rw[show off+(k*sz In+0)=off+k*2 from rfl,←HR.out.2.1.cell (p:=⟨g,_,none⟩) hg]at m0
   rw[show off+(k*sz In+1)=off+k*2+1 from rfl,←HR.out.2.1.cell (p:=⟨g,_,none⟩) hg]at m1
   have hkn':(k:Int)<cn:=by omega
   have HWK:=zhd (show wrap64 ((k:Int)+1)=(k:Int)+1 from by have a1:=HL.out.1;have a2:=(imgL_ok ST.out.ok).2.1;unfold wrap64;omega)
   have HD:=zhd (by have h:=HR.out.2.2.1;rw[hdr]at h;exact h)
   obtain⟨inf,ok,hof⟩:∃inf ok,ofL cop=(inf,ok):=⟨_,_,rfl⟩
   have OF:=zhd (fun W=>of_rule cop inf ok hof W)
   have HN:=zhd (show inf.name.size≤10 from by have:=name_size cop;rw[hof]at this;exact this)
   have HOF:=zh2 hof hok
   obtain⟨nm,io,ii,jo,bb,be,bf⟩:=inf
   dsimp only at m0 m1 OF HN
   have hn10:nm.size≤10:=HN.out
   have hlook:=look_nm (ST.out.lab.keep (S:=fun _=>False) (zkb HR.out.2.1) (fun f=>f)) (k:Int)
   have lts:mb<wr.heap.size:=by omega
   have y0:=x0
   have y1:=x1
   have y2:=x2
   have y3:=x3
   clear x0 x1 x2 x3 hcs hel hdr hof hok
   cases hg:MapTy.get (labsL p.code) (k:Int)with
   |none=>
    rw[hg]at hlook
    dsimp only[Option.isSome,Option.getD]at hlook
    go_wp2_with fail
    obtain⟨w5,hw5⟩:∃w5,w5=wr.alloc (.cells #[.int .i64 cop,.int .i64 (m:Int)] 43):=⟨_,rfl⟩
    rw[←hw5]
    have i0:w5.cell? ⟨wr.heap.size,0,none⟩=some (.int .i64 cop):=by rw[hw5,zch (heap_alloc_new _ _)];rfl
    have i1:w5.cell? ⟨wr.heap.size,1,none⟩=some (.int .i64 (m:Int)):=by rw[hw5,zch (heap_alloc_new _ _)];rfl
    have lt5:wr.heap.size<w5.heap.size:=by rw[hw5];simp
    obtain⟨l5,hl5⟩:∃l5,l5=l++headP (labsL p.code) k:=⟨_,rfl⟩
    have hh:headP (labsL p.code) k=[]:=by unfold headP;rw[hg]
    have F5:=zhd (show SB w2.heap.size l5 w5∧Below w2.heap.size w2 w5∧l5=l++headP (labsL p.code) k∧l5.length≤k*2147483648+24∧w5.heap[wr.heap.size]? =some (.cells #[.int .i64 cop,.int .i64 (m:Int)] 43 (0,0))from
     ⟨by rw[hl5,hh,List.append_nil,hw5];exact HR.out.1.ext (zal),by rw[hw5];exact HR.out.2.1.alloc (Nat.le_of_lt ltr) _,hl5,(by have e:l5.length=l.length:=(by rw[hl5,hh,List.append_nil]);have:=HR.out.2.2.2;omega),by rw[hw5];exact heap_alloc_new _ _⟩)
    clear hl5 hh hw5 hlook hg
    have HL7:=zhd (show l5.length+(⟨#[32,32]⟩++nm:ByteArray).size≤140737488355328 from by
     have a1:=F5.out.2.2.2.1
     have a2:=HN.out
     have a3:=(imgL_ok ST.out.ok).2.1
     have a4:=HL.out.1
     have a5:(⟨#[32,32]⟩++nm:ByteArray).size=2+nm.size:=(by rw[ByteArray.size_append];rfl)
     omega)
    refine(OF.out _).mono ?_
    rintro e w6 ⟨rfl,hB6⟩
    have lt6:wr.heap.size<w6.heap.size:=Nat.lt_of_lt_of_le lt5 hB6.size
    have hin6:w6.heap[wr.heap.size]? =some (.cells #[.int .i64 cop,.int .i64 (m:Int)] 43 (0,0)):=(hB6.block _ lt5).trans F5.out.2.2.2.2
    have lt6b:w2.heap.size<w6.heap.size:=by omega
    have K6:Below w5.heap.size w5 (w6.alloc (.cells #[.string nm,.int .i64 io,.int .i64 ii,.int .i64 jo,.bool bb,.bool be,.bool bf] 148)):=hB6.trans ((Below.refl _ _).alloc hB6.size _)
    have S6:=F5.out.1.ext K6
    have HF6:=zh4 S6 K6 hin6 lt6b
    have WS:=zhd (writeString_any w2.heap.size l5 (⟨#[32,32]⟩++nm) (w6.alloc (.cells #[.string nm,.int .i64 io,.int .i64 ii,.int .i64 jo,.bool bb,.bool be,.bool bf] 148)) HF6.out.1 HL7.out)
    clear hB6 S6 K6 hin6 OF i0 i1 HL7
    go_wp2_with fail
    refine WS.out.mono ?_
    rintro e w7 ⟨rfl,H7⟩
    have z7:=H7.out.2.below.size
    have hin7:w7.heap[wr.heap.size]? =some (.cells #[.int .i64 cop,.int .i64 (m:Int)] 43 (0,0)):=H7.out.2.heap ((Below.heap_alloc _ _ _ lt6).trans HF6.out.2.2.1) (by omega) (by decide)
    have hif7:w7.heap[w6.heap.size]? =some (.cells #[.string nm,.int .i64 io,.int .i64 ii,.int .i64 jo,.bool bb,.bool be,.bool bf] 148 (0,0)):=H7.out.2.heap (heap_alloc_new _ _) (by omega) (by decide)
    have j0:=zca hin7 0 rfl
    have j1:=zca hin7 1 rfl
    have u0:=zca hif7 0 rfl
    have u1:=zca hif7 1 rfl
    have ltj:=zlt hin7
    have ltu:=zlt hif7
    have K7:Below w2.heap.size w2 w7:=(F5.out.2.1.trans (HF6.out.2.1.mono (by omega))).trans H7.out.2.below
    obtain⟨l7,hl7⟩:∃l7,l7=l5++(⟨#[32,32]⟩++nm:ByteArray).data.toList:=⟨_,rfl⟩
    have HK7:=zh2 (show SB w2.heap.size l7 w7 from(by rw[hl7];exact H7.out.1)) K7
    have CL:=zhd (show∀A,argP p (labsL p.code) io m=A→(l7++A)++[10]++codeP p (labsL p.code) (k+1) (p.code.drop (k+1))=codeP p (labsL p.code) 0 p.code from fun A hA=>by
     have h:=pr_close (A:=A) HD.out (by rw[HOF.out.1];exact hA)
     rw[HOF.out.1,←F5.out.2.2.1]at h
     rw[hl7]
     exact h)
    have LN:=zhd (show l7.length≤k*2147483648+40∧k≤512 from by
     have a1:=F5.out.2.2.2.1
     have a2:=two_len nm
     have a3:=(imgL_ok ST.out.ok).2.1
     have a4:=HL.out.1
     have a5:l7.length=l5.length+(⟨#[32,32]⟩++nm:ByteArray).data.toList.length:=(by rw[hl7,List.length_append])
     omega)
    have HM:=zhd (show(m:Int)<mostL p io from by have h:=HOF.out.2.2.2;rw[HOF.out.1]at h;exact h)
    have lt7:w2.heap.size<w7.heap.size:=H7.out.1.lt
    rw[←K7.cell (p:=⟨w.heap.size,_,none⟩) lt2]at y0 y1 y2 y3
    have ltx7:w.heap.size<w7.heap.size:=by omega
    have ltm7:mb<w7.heap.size:=by omega
    clear hin7 hif7 z7 H7 K7 HF6 hl7 WS F5 HD HOF m0 m1 lt5 lt6 lt6b hn10 HN
    by_cases o1:io=1
    ·subst o1
     have hmn:m<p.consts.length:=by
      have h:=HM.out
      have e:mostL p 1=p.consts.length:=rfl
      omega
     obtain⟨y,hy⟩:=elem_at (l:=p.consts) (k:=m) hmn
     obtain⟨g2,off2,ha2,hFg2,hg2,hel2⟩:=ST.out.img.consts.elems.2.2.resolve_left (fun e=>by rw[e]at hy;simp at hy)
     obtain⟨c',hC,n0,n1,n2,n3⟩:=hel2 m y hy
     dsimp only at ha2
     subst ha2
     rw[←HK7.out.2.cell (p:=⟨g2,_,none⟩) hg2]at n0 n1 n2 n3
     have hgl2:g2<w7.heap.size:=by omega
     have hmn':(m:Int)<kn:=by have:=HL.out.2.1;omega
     have hmem:=zmg hy
     have hsz:=const_sz ST.out.ok y hmem
     have IT:=zhd (print_any (N:=N) y c'.kind c'.n c'.s c'.la c'.ln c'.lc F w7 (hC.keep (S:=fun _=>False) (zkb HK7.out.2) (fun _ _ f=>f)) (ST.out.gl.below HK7.out.2) (ST.out.wf y hmem) (by omega))
     have hsv:(printV y).size≤20000:=by have:=printV_size y (ST.out.wf y hmem);omega
     unfold VPPost at IT
     obtain⟨sv,hsv0⟩:∃sv,sv=printV y:=⟨_,rfl⟩
     rw[←hsv0]at IT hsv
     have HAr:=zhd (show argP p (labsL p.code) 1 m=(⟨#[32]⟩++sv:ByteArray).data.toList from by rw[hsv0];unfold argP argS;rw[hy];rfl)
     clear hsv0 hsz hel2 hy hmn hmem hC
     go_wp2_with fail
     refine IT.out.mono ?_
     rintro e w8 ⟨rfl,hB8⟩
     have HB8:=zhd hB8
     clear hB8
     have HL9:=zhd (show l7.length+(⟨#[32]⟩++sv:ByteArray).size≤140737488355328 from by
      have a1:=LN.out
      have a5:(⟨#[32]⟩++sv:ByteArray).size=1+sv.size:=(by rw[ByteArray.size_append];rfl)
      omega)
     have WS2:=zhd (writeString_any w2.heap.size l7 (⟨#[32]⟩++sv) w8 (HK7.out.1.ext HB8.out) HL9.out)
     clear HL9
     go_wp2_with fail
     refine WS2.out.mono ?_
     rintro e w9 ⟨rfl,H9⟩
     have LN9:=zhd (show(l7++(⟨#[32]⟩++sv:ByteArray).data.toList).length≤k*2147483648+20041 from by
      have a1:=LN.out
      have a2:=one_len sv
      rw[List.length_append]
      omega)
     have WB:=zhd (writeByte_any w2.heap.size (l7++(⟨#[32]⟩++sv:ByteArray).data.toList) 10 w9 H9.out.1 (by have:=LN9.out;have:=LN.out;omega))
     clear WS2
     go_wp2_with fail
     refine WB.out.mono ?_
     rintro e w10 ⟨rfl,H10⟩
     go_wp2_with fail
     go_roundg (cn - (k+1))
     case measure=>have:=HG.out;omega
     case rel=>
      refine⟨k+1,by simp[HWK.out],by omega,rfl,zhd ⟨_,H10.out.1,((HK7.out.2.trans (HB8.out.mono (Nat.le_of_lt lt7))).trans H9.out.2.below).trans H10.out.2.below,CL.out _ HAr.out,?_⟩⟩
      have:=LN9.out
      rw[List.length_append]
      show _+1≤_
      omega
    ·by_cases o2:io=2
     ·subst o2
      have hmn:m<p.names.length:=by
       have h:=HM.out
       have e:mostL p 2=p.names.length:=rfl
       omega
      obtain⟨y,hy⟩:=elem_at (l:=p.names) (k:=m) hmn
      obtain⟨g2,off2,ha2,hel2⟩:=ST.out.img.names.elems.2.2
      obtain⟨hFg2,hg2,hcs2⟩:=hel2 m y hy
      have ha2:=ha2.resolve_right (fun e=>by rw[e]at hy;simp at hy)
      dsimp only at ha2
      subst ha2
      have n0:=hcs2 0 _ rfl
      rw[show off2+(m*sz ByteArray+0)=off2+m from by simp[Cells.sz]]at n0
      rw[←HK7.out.2.cell (p:=⟨g2,_,none⟩) hg2]at n0
      have hgl2:g2<w7.heap.size:=by omega
      have hmn':(m:Int)<nn:=by have:=HL.out.2.2;omega
      have hys:y.size≤64:=names_ok (imgL_ok ST.out.ok).2.2.2.2.2.2.2.1 y (zmg hy)
      have IT:=zhd (show Calls Tryz.prog 75 #[.string y] w7 fun e w'=>e= .returned (.string (quoteB y))∧Below w7.heap.size w7 w' from quote_any y w7 (by omega))
      have hsv:(quoteB y).size≤20000:=by have:=quoteB_size y;omega
      obtain⟨sv,hsv0⟩:∃sv,sv=quoteB y:=⟨_,rfl⟩
      rw[←hsv0]at IT hsv
      have HAr:=zhd (show argP p (labsL p.code) 2 m=(⟨#[32]⟩++sv:ByteArray).data.toList from by rw[hsv0];unfold argP argS;rw[hy];rfl)
      clear hsv0 hys hel2 hcs2 hy hmn
      go_wp2_with fail
      refine IT.out.mono ?_
      rintro e w8 ⟨rfl,hB8⟩
      have HB8:=zhd hB8
      clear hB8
      have HL9:=zhd (show l7.length+(⟨#[32]⟩++sv:ByteArray).size≤140737488355328 from by
       have a1:=LN.out
       have a5:(⟨#[32]⟩++sv:ByteArray).size=1+sv.size:=(by rw[ByteArray.size_append];rfl)
       omega)
      have WS2:=zhd (writeString_any w2.heap.size l7 (⟨#[32]⟩++sv) w8 (HK7.out.1.ext HB8.out) HL9.out)
      clear HL9
      go_wp2_with fail
      refine WS2.out.mono ?_
      rintro e w9 ⟨rfl,H9⟩
      have LN9:=zhd (show(l7++(⟨#[32]⟩++sv:ByteArray).data.toList).length≤k*2147483648+20041 from by
       have a1:=LN.out
       have a2:=one_len sv
       rw[List.length_append]
       omega)
      have WB:=zhd (writeByte_any w2.heap.size (l7++(⟨#[32]⟩++sv:ByteArray).data.toList) 10 w9 H9.out.1 (by have:=LN9.out;have:=LN.out;omega))
      clear WS2
      go_wp2_with fail
      refine WB.out.mono ?_
      rintro e w10 ⟨rfl,H10⟩
      go_wp2_with fail
      go_roundg (cn - (k+1))
      case measure=>have:=HG.out;omega
      case rel=>
       refine⟨k+1,by simp[HWK.out],by omega,rfl,zhd ⟨_,H10.out.1,((HK7.out.2.trans (HB8.out.mono (Nat.le_of_lt lt7))).trans H9.out.2.below).trans H10.out.2.below,CL.out _ HAr.out,?_⟩⟩
       have:=LN9.out
       rw[List.length_append]
       show _+1≤_
       omega
     ·by_cases o4:io=4
      ·subst o4
       have hlk:=look_nm1 (ST.out.lab.keep (S:=fun _=>False) (zkb HK7.out.2) (fun f=>f)) (m:Int)
       obtain⟨sv,hsv0⟩:∃sv,sv=(MapTy.get (labsL p.code) (m:Int)).getD ⟨#[]⟩:=⟨_,rfl⟩
       have hsv:sv.size≤20000:=by have:=labD_size (imgL_ok ST.out.ok).2.1 (m:Int);rw[hsv0];omega
       rw[←hsv0]at hlk
       have HAr:=zhd (show argP p (labsL p.code) 4 m=(⟨#[32]⟩++sv:ByteArray).data.toList from by rw[hsv0];rfl)
       clear hsv0
       have HL9:=zhd (show l7.length+(⟨#[32]⟩++sv:ByteArray).size≤140737488355328 from by
        have a1:=LN.out
        have a5:(⟨#[32]⟩++sv:ByteArray).size=1+sv.size:=(by rw[ByteArray.size_append];rfl)
        omega)
       have WS2:=zhd (writeString_any w2.heap.size l7 (⟨#[32]⟩++sv) w7 HK7.out.1 HL9.out)
       clear HL9
       go_wp2_with fail
       refine WS2.out.mono ?_
       rintro e w9 ⟨rfl,H9⟩
       have LN9:=zhd (show(l7++(⟨#[32]⟩++sv:ByteArray).data.toList).length≤k*2147483648+20041 from by
        have a1:=LN.out
        have a2:=one_len sv
        rw[List.length_append]
        omega)
       have WB:=zhd (writeByte_any w2.heap.size (l7++(⟨#[32]⟩++sv:ByteArray).data.toList) 10 w9 H9.out.1 (by have:=LN9.out;have:=LN.out;omega))
       clear WS2
       go_wp2_with fail
       refine WB.out.mono ?_
       rintro e w10 ⟨rfl,H10⟩
       go_wp2_with fail
       go_roundg (cn - (k+1))
       case measure=>have:=HG.out;omega
       case rel=>
        refine⟨k+1,by simp[HWK.out],by omega,rfl,zhd ⟨_,H10.out.1,(HK7.out.2.trans H9.out.2.below).trans H10.out.2.below,CL.out _ HAr.out,?_⟩⟩
        have:=LN9.out
        rw[List.length_append]
        show _+1≤_
        omega
      ·by_cases o3:io=3∨io=5
       ·have hm:(m:Int)≤100:=by
         have h:=HM.out
         have h2:=(imgL_ok ST.out.ok).2.2.2.2.2.1
         rcases o3 with rfl|rfl
         ·have e:mostL p 3=p.places:=rfl
          omega
         ·have e:mostL p 5=17:=rfl
          omega
        have IT:=zhd (itoa_anyB (m:Int) (by omega) (by omega) w7 (ST.out.gl.below HK7.out.2))
        have hsv:(itoaB (m:Int)).size≤20000:=by have:=itoaB_size (n:=(m:Int)) (by omega) (by omega);omega
        obtain⟨sv,hsv0⟩:∃sv,sv=itoaB (m:Int):=⟨_,rfl⟩
        rw[←hsv0]at IT hsv
        rcases o3 with rfl|rfl
        ·
         have HAr:=zhd (show argP p (labsL p.code) 3 m=(⟨#[32]⟩++sv:ByteArray).data.toList from by rw[hsv0];rfl)
         clear hsv0 hm
         go_wp2_with fail
         refine IT.out.mono ?_
         rintro e w8 ⟨rfl,hB8⟩
         have HB8:=zhd hB8
         clear hB8
         have HL9:=zhd (show l7.length+(⟨#[32]⟩++sv:ByteArray).size≤140737488355328 from by
          have a1:=LN.out
          have a5:(⟨#[32]⟩++sv:ByteArray).size=1+sv.size:=(by rw[ByteArray.size_append];rfl)
          omega)
         have WS2:=zhd (writeString_any w2.heap.size l7 (⟨#[32]⟩++sv) w8 (HK7.out.1.ext HB8.out) HL9.out)
         clear HL9
         go_wp2_with fail
         refine WS2.out.mono ?_
         rintro e w9 ⟨rfl,H9⟩
         have LN9:=zhd (show(l7++(⟨#[32]⟩++sv:ByteArray).data.toList).length≤k*2147483648+20041 from by
          have a1:=LN.out
          have a2:=one_len sv
          rw[List.length_append]
          omega)
         have WB:=zhd (writeByte_any w2.heap.size (l7++(⟨#[32]⟩++sv:ByteArray).data.toList) 10 w9 H9.out.1 (by have:=LN9.out;have:=LN.out;omega))
         clear WS2
         go_wp2_with fail
         refine WB.out.mono ?_
         rintro e w10 ⟨rfl,H10⟩
         go_wp2_with fail
         go_roundg (cn - (k+1))
         case measure=>have:=HG.out;omega
         case rel=>
          refine⟨k+1,by simp[HWK.out],by omega,rfl,zhd ⟨_,H10.out.1,((HK7.out.2.trans (HB8.out.mono (Nat.le_of_lt lt7))).trans H9.out.2.below).trans H10.out.2.below,CL.out _ HAr.out,?_⟩⟩
          have:=LN9.out
          rw[List.length_append]
          show _+1≤_
          omega
        ·
         have HAr:=zhd (show argP p (labsL p.code) 5 m=(⟨#[32]⟩++sv:ByteArray).data.toList from by rw[hsv0];rfl)
         clear hsv0 hm
         go_wp2_with fail
         refine IT.out.mono ?_
         rintro e w8 ⟨rfl,hB8⟩
         have HB8:=zhd hB8
         clear hB8
         have HL9:=zhd (show l7.length+(⟨#[32]⟩++sv:ByteArray).size≤140737488355328 from by
          have a1:=LN.out
          have a5:(⟨#[32]⟩++sv:ByteArray).size=1+sv.size:=(by rw[ByteArray.size_append];rfl)
          omega)
         have WS2:=zhd (writeString_any w2.heap.size l7 (⟨#[32]⟩++sv) w8 (HK7.out.1.ext HB8.out) HL9.out)
         clear HL9
         go_wp2_with fail
         refine WS2.out.mono ?_
         rintro e w9 ⟨rfl,H9⟩
         have LN9:=zhd (show(l7++(⟨#[32]⟩++sv:ByteArray).data.toList).length≤k*2147483648+20041 from by
          have a1:=LN.out
          have a2:=one_len sv
          rw[List.length_append]
          omega)
         have WB:=zhd (writeByte_any w2.heap.size (l7++(⟨#[32]⟩++sv:ByteArray).data.toList) 10 w9 H9.out.1 (by have:=LN9.out;have:=LN.out;omega))
         clear WS2
         go_wp2_with fail
         refine WB.out.mono ?_
         rintro e w10 ⟨rfl,H10⟩
         go_wp2_with fail
         go_roundg (cn - (k+1))
         case measure=>have:=HG.out;omega
         case rel=>
          refine⟨k+1,by simp[HWK.out],by omega,rfl,zhd ⟨_,H10.out.1,((HK7.out.2.trans (HB8.out.mono (Nat.le_of_lt lt7))).trans H9.out.2.below).trans H10.out.2.below,CL.out _ HAr.out,?_⟩⟩
          have:=LN9.out
          rw[List.length_append]
          show _+1≤_
          omega
       ·have e1:(io==1)=false:=beq_eq_false_iff_ne.2 o1
        have e2:(io==2)=false:=beq_eq_false_iff_ne.2 o2
        have e4:(io==4)=false:=beq_eq_false_iff_ne.2 o4
        have e3:(io==3)=false:=beq_eq_false_iff_ne.2 (fun h=>o3 (.inl h))
        have e5:(io==5)=false:=beq_eq_false_iff_ne.2 (fun h=>o3 (.inr h))
        have HAr:=zhd (show argP p (labsL p.code) io m=[]from by unfold argP;rw[e1,e2,e4,e3,e5];rfl)
        clear o1 o2 o4 o3
        have WB:=zhd (writeByte_any w2.heap.size l7 10 w7 HK7.out.1 (by have:=LN.out;omega))
        go_wp2_with fail
        refine WB.out.mono ?_
        rintro e w10 ⟨rfl,H10⟩
        go_wp2_with fail
        go_roundg (cn - (k+1))
        case measure=>have:=HG.out;omega
        case rel=>
         refine⟨k+1,by simp[HWK.out],by omega,rfl,zhd ⟨l7++[10],H10.out.1,HK7.out.2.trans H10.out.2.below,?_,?_⟩⟩
         ·have h:=CL.out _ HAr.out
          rw[List.append_nil]at h
          exact h
         ·have:=LN.out
          rw[List.length_append]
          show l7.length+1≤_
          omega
   |some s=>
    rw[hg]at hlook
    dsimp only[Option.isSome,Option.getD]at hlook
    have hs22:s.size≤22:=lab_size (imgL_ok ST.out.ok).2.1 hg
    have hh:headP (labsL p.code) k=(s++⟨#[58,10]⟩).data.toList:=by unfold headP;rw[hg]
    have HH:=zhd hh
    clear hh hg
    have HL5:=zhd (show l.length+(s++⟨#[58,10]⟩:ByteArray).size≤140737488355328 from by
     have a1:=HR.out.2.2.2
     have a3:=(imgL_ok ST.out.ok).2.1
     have a4:=HL.out.1
     have a5:(s++⟨#[58,10]⟩:ByteArray).size=s.size+2:=(by rw[ByteArray.size_append];rfl)
     omega)
    have WS1:=zhd (writeString_any w2.heap.size l (s++⟨#[58,10]⟩) (wr.alloc (.cells #[.int .i64 cop,.int .i64 (m:Int)] 43)) (HR.out.1.ext (zal)) HL5.out)
    go_wp2_with fail
    refine WS1.out.mono ?_
    rintro e w5 ⟨rfl,H5⟩
    have z5:=H5.out.2.below.size
    have hin5:w5.heap[wr.heap.size]? =some (.cells #[.int .i64 cop,.int .i64 (m:Int)] 43 (0,0)):=H5.out.2.heap (heap_alloc_new _ _) (by omega) (by decide)
    have i0:=zca hin5 0 rfl
    have i1:=zca hin5 1 rfl
    have lt5:wr.heap.size<w5.heap.size:=zlt hin5
    obtain⟨l5,hl5⟩:∃l5,l5=l++headP (labsL p.code) k:=⟨_,rfl⟩
    have F5:=zhd (show SB w2.heap.size l5 w5∧Below w2.heap.size w2 w5∧l5=l++headP (labsL p.code) k∧l5.length≤k*2147483648+24∧w5.heap[wr.heap.size]? =some (.cells #[.int .i64 cop,.int .i64 (m:Int)] 43 (0,0))from
     ⟨by rw[hl5,HH.out];exact H5.out.1,(HR.out.2.1.alloc (Nat.le_of_lt ltr) _).trans H5.out.2.below,hl5,(by have e:l5.length=l.length+(headP (labsL p.code) k).length:=(by rw[hl5,List.length_append]);have:=headP_len (imgL_ok ST.out.ok).2.1 k;have:=HR.out.2.2.2;omega),hin5⟩)
    clear hl5 hin5 z5 H5 hlook WS1 HL5 hs22
    go_wp2_with fail
    have HL7:=zhd (show l5.length+(⟨#[32,32]⟩++nm:ByteArray).size≤140737488355328 from by
     have a1:=F5.out.2.2.2.1
     have a2:=HN.out
     have a3:=(imgL_ok ST.out.ok).2.1
     have a4:=HL.out.1
     have a5:(⟨#[32,32]⟩++nm:ByteArray).size=2+nm.size:=(by rw[ByteArray.size_append];rfl)
     omega)
    refine(OF.out _).mono ?_
    rintro e w6 ⟨rfl,hB6⟩
    have lt6:wr.heap.size<w6.heap.size:=Nat.lt_of_lt_of_le lt5 hB6.size
    have hin6:w6.heap[wr.heap.size]? =some (.cells #[.int .i64 cop,.int .i64 (m:Int)] 43 (0,0)):=(hB6.block _ lt5).trans F5.out.2.2.2.2
    have lt6b:w2.heap.size<w6.heap.size:=by omega
    have K6:Below w5.heap.size w5 (w6.alloc (.cells #[.string nm,.int .i64 io,.int .i64 ii,.int .i64 jo,.bool bb,.bool be,.bool bf] 148)):=hB6.trans ((Below.refl _ _).alloc hB6.size _)
    have S6:=F5.out.1.ext K6
    have HF6:=zh4 S6 K6 hin6 lt6b
    have WS:=zhd (writeString_any w2.heap.size l5 (⟨#[32,32]⟩++nm) (w6.alloc (.cells #[.string nm,.int .i64 io,.int .i64 ii,.int .i64 jo,.bool bb,.bool be,.bool bf] 148)) HF6.out.1 HL7.out)
    clear hB6 S6 K6 hin6 OF i0 i1 HL7
    go_wp2_with fail
    refine WS.out.mono ?_
    rintro e w7 ⟨rfl,H7⟩
    have z7:=H7.out.2.below.size
    have hin7:w7.heap[wr.heap.size]? =some (.cells #[.int .i64 cop,.int .i64 (m:Int)] 43 (0,0)):=H7.out.2.heap ((Below.heap_alloc _ _ _ lt6).trans HF6.out.2.2.1) (by omega) (by decide)
    have hif7:w7.heap[w6.heap.size]? =some (.cells #[.string nm,.int .i64 io,.int .i64 ii,.int .i64 jo,.bool bb,.bool be,.bool bf] 148 (0,0)):=H7.out.2.heap (heap_alloc_new _ _) (by omega) (by decide)
    have j0:=zca hin7 0 rfl
    have j1:=zca hin7 1 rfl
    have u0:=zca hif7 0 rfl
    have u1:=zca hif7 1 rfl
    have ltj:=zlt hin7
    have ltu:=zlt hif7
    have K7:Below w2.heap.size w2 w7:=(F5.out.2.1.trans (HF6.out.2.1.mono (by omega))).trans H7.out.2.below
    obtain⟨l7,hl7⟩:∃l7,l7=l5++(⟨#[32,32]⟩++nm:ByteArray).data.toList:=⟨_,rfl⟩
    have HK7:=zh2 (show SB w2.heap.size l7 w7 from(by rw[hl7];exact H7.out.1)) K7
    have CL:=zhd (show∀A,argP p (labsL p.code) io m=A→(l7++A)++[10]++codeP p (labsL p.code) (k+1) (p.code.drop (k+1))=codeP p (labsL p.code) 0 p.code from fun A hA=>by
     have h:=pr_close (A:=A) HD.out (by rw[HOF.out.1];exact hA)
     rw[HOF.out.1,←F5.out.2.2.1]at h
     rw[hl7]
     exact h)
    have LN:=zhd (show l7.length≤k*2147483648+40∧k≤512 from by
     have a1:=F5.out.2.2.2.1
     have a2:=two_len nm
     have a3:=(imgL_ok ST.out.ok).2.1
     have a4:=HL.out.1
     have a5:l7.length=l5.length+(⟨#[32,32]⟩++nm:ByteArray).data.toList.length:=(by rw[hl7,List.length_append])
     omega)
    have HM:=zhd (show(m:Int)<mostL p io from by have h:=HOF.out.2.2.2;rw[HOF.out.1]at h;exact h)
    have lt7:w2.heap.size<w7.heap.size:=H7.out.1.lt
    rw[←K7.cell (p:=⟨w.heap.size,_,none⟩) lt2]at y0 y1 y2 y3
    have ltx7:w.heap.size<w7.heap.size:=by omega
    have ltm7:mb<w7.heap.size:=by omega
    clear hin7 hif7 z7 H7 K7 HF6 hl7 WS F5 HD HOF m0 m1 lt5 lt6 lt6b hn10 HN
    by_cases o1:io=1
    ·subst o1
     have hmn:m<p.consts.length:=by
      have h:=HM.out
      have e:mostL p 1=p.consts.length:=rfl
      omega
     obtain⟨y,hy⟩:=elem_at (l:=p.consts) (k:=m) hmn
     obtain⟨g2,off2,ha2,hFg2,hg2,hel2⟩:=ST.out.img.consts.elems.2.2.resolve_left (fun e=>by rw[e]at hy;simp at hy)
     obtain⟨c',hC,n0,n1,n2,n3⟩:=hel2 m y hy
     dsimp only at ha2
     subst ha2
     rw[←HK7.out.2.cell (p:=⟨g2,_,none⟩) hg2]at n0 n1 n2 n3
     have hgl2:g2<w7.heap.size:=by omega
     have hmn':(m:Int)<kn:=by have:=HL.out.2.1;omega
     have hmem:=zmg hy
     have hsz:=const_sz ST.out.ok y hmem
     have IT:=zhd (print_any (N:=N) y c'.kind c'.n c'.s c'.la c'.ln c'.lc F w7 (hC.keep (S:=fun _=>False) (zkb HK7.out.2) (fun _ _ f=>f)) (ST.out.gl.below HK7.out.2) (ST.out.wf y hmem) (by omega))
     have hsv:(printV y).size≤20000:=by have:=printV_size y (ST.out.wf y hmem);omega
     unfold VPPost at IT
     obtain⟨sv,hsv0⟩:∃sv,sv=printV y:=⟨_,rfl⟩
     rw[←hsv0]at IT hsv
     have HAr:=zhd (show argP p (labsL p.code) 1 m=(⟨#[32]⟩++sv:ByteArray).data.toList from by rw[hsv0];unfold argP argS;rw[hy];rfl)
     clear hsv0 hsz hel2 hy hmn hmem hC
     go_wp2_with fail
     refine IT.out.mono ?_
     rintro e w8 ⟨rfl,hB8⟩
     have HB8:=zhd hB8
     clear hB8
     have HL9:=zhd (show l7.length+(⟨#[32]⟩++sv:ByteArray).size≤140737488355328 from by
      have a1:=LN.out
      have a5:(⟨#[32]⟩++sv:ByteArray).size=1+sv.size:=(by rw[ByteArray.size_append];rfl)
      omega)
     have WS2:=zhd (writeString_any w2.heap.size l7 (⟨#[32]⟩++sv) w8 (HK7.out.1.ext HB8.out) HL9.out)
     clear HL9
     go_wp2_with fail
     refine WS2.out.mono ?_
     rintro e w9 ⟨rfl,H9⟩
     have LN9:=zhd (show(l7++(⟨#[32]⟩++sv:ByteArray).data.toList).length≤k*2147483648+20041 from by
      have a1:=LN.out
      have a2:=one_len sv
      rw[List.length_append]
      omega)
     have WB:=zhd (writeByte_any w2.heap.size (l7++(⟨#[32]⟩++sv:ByteArray).data.toList) 10 w9 H9.out.1 (by have:=LN9.out;have:=LN.out;omega))
     clear WS2
     go_wp2_with fail
     refine WB.out.mono ?_
     rintro e w10 ⟨rfl,H10⟩
     go_wp2_with fail
     go_roundg (cn - (k+1))
     case measure=>have:=HG.out;omega
     case rel=>
      refine⟨k+1,by simp[HWK.out],by omega,rfl,zhd ⟨_,H10.out.1,((HK7.out.2.trans (HB8.out.mono (Nat.le_of_lt lt7))).trans H9.out.2.below).trans H10.out.2.below,CL.out _ HAr.out,?_⟩⟩
      have:=LN9.out
      rw[List.length_append]
      show _+1≤_
      omega
    ·by_cases o2:io=2
     ·subst o2
      have hmn:m<p.names.length:=by
       have h:=HM.out
       have e:mostL p 2=p.names.length:=rfl
       omega
      obtain⟨y,hy⟩:=elem_at (l:=p.names) (k:=m) hmn
      obtain⟨g2,off2,ha2,hel2⟩:=ST.out.img.names.elems.2.2
      obtain⟨hFg2,hg2,hcs2⟩:=hel2 m y hy
      have ha2:=ha2.resolve_right (fun e=>by rw[e]at hy;simp at hy)
      dsimp only at ha2
      subst ha2
      have n0:=hcs2 0 _ rfl
      rw[show off2+(m*sz ByteArray+0)=off2+m from by simp[Cells.sz]]at n0
      rw[←HK7.out.2.cell (p:=⟨g2,_,none⟩) hg2]at n0
      have hgl2:g2<w7.heap.size:=by omega
      have hmn':(m:Int)<nn:=by have:=HL.out.2.2;omega
      have hys:y.size≤64:=names_ok (imgL_ok ST.out.ok).2.2.2.2.2.2.2.1 y (zmg hy)
      have IT:=zhd (show Calls Tryz.prog 75 #[.string y] w7 fun e w'=>e= .returned (.string (quoteB y))∧Below w7.heap.size w7 w' from quote_any y w7 (by omega))
      have hsv:(quoteB y).size≤20000:=by have:=quoteB_size y;omega
      obtain⟨sv,hsv0⟩:∃sv,sv=quoteB y:=⟨_,rfl⟩
      rw[←hsv0]at IT hsv
      have HAr:=zhd (show argP p (labsL p.code) 2 m=(⟨#[32]⟩++sv:ByteArray).data.toList from by rw[hsv0];unfold argP argS;rw[hy];rfl)
      clear hsv0 hys hel2 hcs2 hy hmn
      go_wp2_with fail
      refine IT.out.mono ?_
      rintro e w8 ⟨rfl,hB8⟩
      have HB8:=zhd hB8
      clear hB8
      have HL9:=zhd (show l7.length+(⟨#[32]⟩++sv:ByteArray).size≤140737488355328 from by
       have a1:=LN.out
       have a5:(⟨#[32]⟩++sv:ByteArray).size=1+sv.size:=(by rw[ByteArray.size_append];rfl)
       omega)
      have WS2:=zhd (writeString_any w2.heap.size l7 (⟨#[32]⟩++sv) w8 (HK7.out.1.ext HB8.out) HL9.out)
      clear HL9
      go_wp2_with fail
      refine WS2.out.mono ?_
      rintro e w9 ⟨rfl,H9⟩
      have LN9:=zhd (show(l7++(⟨#[32]⟩++sv:ByteArray).data.toList).length≤k*2147483648+20041 from by
       have a1:=LN.out
       have a2:=one_len sv
       rw[List.length_append]
       omega)
      have WB:=zhd (writeByte_any w2.heap.size (l7++(⟨#[32]⟩++sv:ByteArray).data.toList) 10 w9 H9.out.1 (by have:=LN9.out;have:=LN.out;omega))
      clear WS2
      go_wp2_with fail
      refine WB.out.mono ?_
      rintro e w10 ⟨rfl,H10⟩
      go_wp2_with fail
      go_roundg (cn - (k+1))
      case measure=>have:=HG.out;omega
      case rel=>
       refine⟨k+1,by simp[HWK.out],by omega,rfl,zhd ⟨_,H10.out.1,((HK7.out.2.trans (HB8.out.mono (Nat.le_of_lt lt7))).trans H9.out.2.below).trans H10.out.2.below,CL.out _ HAr.out,?_⟩⟩
       have:=LN9.out
       rw[List.length_append]
       show _+1≤_
       omega
     ·by_cases o4:io=4
      ·subst o4
       have hlk:=look_nm1 (ST.out.lab.keep (S:=fun _=>False) (zkb HK7.out.2) (fun f=>f)) (m:Int)
       obtain⟨sv,hsv0⟩:∃sv,sv=(MapTy.get (labsL p.code) (m:Int)).getD ⟨#[]⟩:=⟨_,rfl⟩
       have hsv:sv.size≤20000:=by have:=labD_size (imgL_ok ST.out.ok).2.1 (m:Int);rw[hsv0];omega
       rw[←hsv0]at hlk
       have HAr:=zhd (show argP p (labsL p.code) 4 m=(⟨#[32]⟩++sv:ByteArray).data.toList from by rw[hsv0];rfl)
       clear hsv0
       have HL9:=zhd (show l7.length+(⟨#[32]⟩++sv:ByteArray).size≤140737488355328 from by
        have a1:=LN.out
        have a5:(⟨#[32]⟩++sv:ByteArray).size=1+sv.size:=(by rw[ByteArray.size_append];rfl)
        omega)
       have WS2:=zhd (writeString_any w2.heap.size l7 (⟨#[32]⟩++sv) w7 HK7.out.1 HL9.out)
       clear HL9
       go_wp2_with fail
       refine WS2.out.mono ?_
       rintro e w9 ⟨rfl,H9⟩
       have LN9:=zhd (show(l7++(⟨#[32]⟩++sv:ByteArray).data.toList).length≤k*2147483648+20041 from by
        have a1:=LN.out
        have a2:=one_len sv
        rw[List.length_append]
        omega)
       have WB:=zhd (writeByte_any w2.heap.size (l7++(⟨#[32]⟩++sv:ByteArray).data.toList) 10 w9 H9.out.1 (by have:=LN9.out;have:=LN.out;omega))
       clear WS2
       go_wp2_with fail
       refine WB.out.mono ?_
       rintro e w10 ⟨rfl,H10⟩
       go_wp2_with fail
       go_roundg (cn - (k+1))
       case measure=>have:=HG.out;omega
       case rel=>
        refine⟨k+1,by simp[HWK.out],by omega,rfl,zhd ⟨_,H10.out.1,(HK7.out.2.trans H9.out.2.below).trans H10.out.2.below,CL.out _ HAr.out,?_⟩⟩
        have:=LN9.out
        rw[List.length_append]
        show _+1≤_
        omega
      ·by_cases o3:io=3∨io=5
       ·have hm:(m:Int)≤100:=by
         have h:=HM.out
         have h2:=(imgL_ok ST.out.ok).2.2.2.2.2.1
         rcases o3 with rfl|rfl
         ·have e:mostL p 3=p.places:=rfl
          omega
         ·have e:mostL p 5=17:=rfl
          omega
        have IT:=zhd (itoa_anyB (m:Int) (by omega) (by omega) w7 (ST.out.gl.below HK7.out.2))
        have hsv:(itoaB (m:Int)).size≤20000:=by have:=itoaB_size (n:=(m:Int)) (by omega) (by omega);omega
        obtain⟨sv,hsv0⟩:∃sv,sv=itoaB (m:Int):=⟨_,rfl⟩
        rw[←hsv0]at IT hsv
        rcases o3 with rfl|rfl
        ·
         have HAr:=zhd (show argP p (labsL p.code) 3 m=(⟨#[32]⟩++sv:ByteArray).data.toList from by rw[hsv0];rfl)
         clear hsv0 hm
         go_wp2_with fail
         refine IT.out.mono ?_
         rintro e w8 ⟨rfl,hB8⟩
         have HB8:=zhd hB8
         clear hB8
         have HL9:=zhd (show l7.length+(⟨#[32]⟩++sv:ByteArray).size≤140737488355328 from by
          have a1:=LN.out
          have a5:(⟨#[32]⟩++sv:ByteArray).size=1+sv.size:=(by rw[ByteArray.size_append];rfl)
          omega)
         have WS2:=zhd (writeString_any w2.heap.size l7 (⟨#[32]⟩++sv) w8 (HK7.out.1.ext HB8.out) HL9.out)
         clear HL9
         go_wp2_with fail
         refine WS2.out.mono ?_
         rintro e w9 ⟨rfl,H9⟩
         have LN9:=zhd (show(l7++(⟨#[32]⟩++sv:ByteArray).data.toList).length≤k*2147483648+20041 from by
          have a1:=LN.out
          have a2:=one_len sv
          rw[List.length_append]
          omega)
         have WB:=zhd (writeByte_any w2.heap.size (l7++(⟨#[32]⟩++sv:ByteArray).data.toList) 10 w9 H9.out.1 (by have:=LN9.out;have:=LN.out;omega))
         clear WS2
         go_wp2_with fail
         refine WB.out.mono ?_
         rintro e w10 ⟨rfl,H10⟩
         go_wp2_with fail
         go_roundg (cn - (k+1))
         case measure=>have:=HG.out;omega
         case rel=>
          refine⟨k+1,by simp[HWK.out],by omega,rfl,zhd ⟨_,H10.out.1,((HK7.out.2.trans (HB8.out.mono (Nat.le_of_lt lt7))).trans H9.out.2.below).trans H10.out.2.below,CL.out _ HAr.out,?_⟩⟩
          have:=LN9.out
          rw[List.length_append]
          show _+1≤_
          omega
        ·
         have HAr:=zhd (show argP p (labsL p.code) 5 m=(⟨#[32]⟩++sv:ByteArray).data.toList from by rw[hsv0];rfl)
         clear hsv0 hm
         go_wp2_with fail
         refine IT.out.mono ?_
         rintro e w8 ⟨rfl,hB8⟩
         have HB8:=zhd hB8
         clear hB8
         have HL9:=zhd (show l7.length+(⟨#[32]⟩++sv:ByteArray).size≤140737488355328 from by
          have a1:=LN.out
          have a5:(⟨#[32]⟩++sv:ByteArray).size=1+sv.size:=(by rw[ByteArray.size_append];rfl)
          omega)
         have WS2:=zhd (writeString_any w2.heap.size l7 (⟨#[32]⟩++sv) w8 (HK7.out.1.ext HB8.out) HL9.out)
         clear HL9
         go_wp2_with fail
         refine WS2.out.mono ?_
         rintro e w9 ⟨rfl,H9⟩
         have LN9:=zhd (show(l7++(⟨#[32]⟩++sv:ByteArray).data.toList).length≤k*2147483648+20041 from by
          have a1:=LN.out
          have a2:=one_len sv
          rw[List.length_append]
          omega)
         have WB:=zhd (writeByte_any w2.heap.size (l7++(⟨#[32]⟩++sv:ByteArray).data.toList) 10 w9 H9.out.1 (by have:=LN9.out;have:=LN.out;omega))
         clear WS2
         go_wp2_with fail
         refine WB.out.mono ?_
         rintro e w10 ⟨rfl,H10⟩
         go_wp2_with fail
         go_roundg (cn - (k+1))
         case measure=>have:=HG.out;omega
         case rel=>
          refine⟨k+1,by simp[HWK.out],by omega,rfl,zhd ⟨_,H10.out.1,((HK7.out.2.trans (HB8.out.mono (Nat.le_of_lt lt7))).trans H9.out.2.below).trans H10.out.2.below,CL.out _ HAr.out,?_⟩⟩
          have:=LN9.out
          rw[List.length_append]
          show _+1≤_
          omega
       ·have e1:(io==1)=false:=beq_eq_false_iff_ne.2 o1
        have e2:(io==2)=false:=beq_eq_false_iff_ne.2 o2
        have e4:(io==4)=false:=beq_eq_false_iff_ne.2 o4
        have e3:(io==3)=false:=beq_eq_false_iff_ne.2 (fun h=>o3 (.inl h))
        have e5:(io==5)=false:=beq_eq_false_iff_ne.2 (fun h=>o3 (.inr h))
        have HAr:=zhd (show argP p (labsL p.code) io m=[]from by unfold argP;rw[e1,e2,e4,e3,e5];rfl)
        clear o1 o2 o4 o3
        have WB:=zhd (writeByte_any w2.heap.size l7 10 w7 HK7.out.1 (by have:=LN.out;omega))
        go_wp2_with fail
        refine WB.out.mono ?_
        rintro e w10 ⟨rfl,H10⟩
        go_wp2_with fail
        go_roundg (cn - (k+1))
        case measure=>have:=HG.out;omega
        case rel=>
         refine⟨k+1,by simp[HWK.out],by omega,rfl,zhd ⟨l7++[10],H10.out.1,HK7.out.2.trans H10.out.2.below,?_,?_⟩⟩
         ·have h:=CL.out _ HAr.out
          rw[List.append_nil]at h
          exact h
         ·have:=LN.out
          rw[List.length_append]
          show l7.length+1≤_
          omega
  ·obtain rfl:k=cn:=by omega
   have hd:l=codeP p (labsL p.code) 0 p.code:=by
    have h:=HR.out.2.2.1
    rw[List.drop_eq_nil_of_le (by have:=HL.out.1;omega),codeP,List.append_nil]at h
    exact h
   have SA:=zhd (string_any w2.heap.size l wr HR.out.1)
   rw[hd]at SA
   go_wp2_with fail
   refine SA.out.mono ?_
   rintro e w5 ⟨rfl,hB5⟩
   go_wp2_with fail
   go_ret2
   exact⟨rfl,ST.out.below.trans ((HR.out.2.1.trans hB5).mono ST.out.below.size)⟩
theorem print_prog {N:Nat}
  (F:Nat→Prop)(w:World)(i:IC)(p:Img)(H:IAt F w i p)(G:Gl Tryz.prog N w)(hw:∀x∈p.consts,x.wf)
  :Calls Tryz.prog 31 #[.agg #[.slice i.ca i.cn i.cc,.slice i.ka i.kn i.kc,.slice i.na i.nn i.nc,.int .i64 i.pl]] w (APrint w (asmP p)):=by
 unfold asmP
 cases h:(imgL p !=0)with
 |true=>exact print_bad F w i p H G hw _ rfl h
 |false=>exact print_good F w i p H G hw (by simpa using h)
end Go.Proofs.YtakljipkaoahnaaGreatDoor
