/- Parts of the proof: what the functions and the plain laws give that later parts lean on. Conditions: none beyond those that each theorem names. -/
import Derived.Test.YtakljipkaoahnaaGreatDoorA19
import Derived.Test.YtakljipkaoahnaaGreatDoorA20
set_option maxRecDepth 100000
set_option maxHeartbeats 8000000
namespace Go.Proofs.YtakljipkaoahnaaGreatDoor
open Go.RowKit Go.Own Go.Own.MapTy Go.Va Go.Sort
open Go.Own.Cells (sz enc)
theorem op_cases {op:Int}(h0:0≤op)(h1:op<33):op=0∨op=1∨op=2∨op=3∨op=4∨op=5∨op=6∨op=7∨op=8∨op=9∨op=10∨op=11∨op=12∨op=13∨op=14∨op=15∨op=16∨op=17∨op=18∨op=19∨op=20∨op=21∨op=22∨op=23∨op=24∨op=25∨op=26∨op=27∨op=28∨op=29∨op=30∨op=31∨op=32:=by omega
theorem ofL_none {op:Int}(h:¬(0≤op∧op<33)):ofL op=(⟨⟨#[]⟩,0,0,0,false,false,false⟩,false):=by
 have e:∀j:Int,0≤j→j≤32→(op==j)=false:=fun j h1 h2=>by rw[beq_eq_false_iff_ne];omega
 simp only[ofL,waitsL,e 0 (by decide) (by decide),e 1 (by decide) (by decide),e 2 (by decide) (by decide),e 3 (by decide) (by decide),e 4 (by decide) (by decide),e 5 (by decide) (by decide),e 6 (by decide) (by decide),e 7 (by decide) (by decide),e 8 (by decide) (by decide),e 9 (by decide) (by decide),e 10 (by decide) (by decide),e 11 (by decide) (by decide),e 12 (by decide) (by decide),e 13 (by decide) (by decide),e 14 (by decide) (by decide),e 15 (by decide) (by decide),e 16 (by decide) (by decide),e 17 (by decide) (by decide),e 18 (by decide) (by decide),e 19 (by decide) (by decide),e 20 (by decide) (by decide),e 21 (by decide) (by decide),e 22 (by decide) (by decide),e 23 (by decide) (by decide),e 24 (by decide) (by decide),e 25 (by decide) (by decide),e 26 (by decide) (by decide),e 27 (by decide) (by decide),e 28 (by decide) (by decide),e 29 (by decide) (by decide),e 30 (by decide) (by decide),e 31 (by decide) (by decide),e 32 (by decide) (by decide),cond_false]
theorem ok_fin:∀k:Fin 33,(ofL (k.1:Int)).2=true:=by decide+kernel
theorem ok_range {op:Int}:(ofL op).2=true↔0≤op∧op<33:=by
 refine⟨fun h=> ?_,fun h=> ?_⟩
 ·by_cases h0:0≤op∧op<33
  ·exact h0
  ·rw[ofL_none h0]at h;cases h
 ·obtain⟨k,rfl⟩:∃k:Nat,op=k:=⟨op.toNat,by omega⟩
  exact ok_fin ⟨k,by omega⟩
theorem operand_fin:∀k:Fin 33,(ofL (k.1:Int)).1.operand=0∨(ofL (k.1:Int)).1.operand=1∨(ofL (k.1:Int)).1.operand=2∨(ofL (k.1:Int)).1.operand=3∨(ofL (k.1:Int)).1.operand=4∨(ofL (k.1:Int)).1.operand=5:=by decide+kernel
theorem operand_bd6 (op:Int):(ofL op).1.operand=0∨(ofL op).1.operand=1∨(ofL op).1.operand=2∨(ofL op).1.operand=3∨(ofL op).1.operand=4∨(ofL op).1.operand=5:=by
 by_cases h0:0≤op∧op<33
 ·obtain⟨k,rfl⟩:∃k:Nat,op=k:=⟨op.toNat,by omega⟩
  exact operand_fin ⟨k,by omega⟩
 ·rw[ofL_none h0];exact .inl rfl
def opC (k:Int):Int:=bif k==0 then 45 else bif k==1 then 99 else bif k==2 then 110 else bif k==3 then 112 else bif k==4 then 116 else 107
theorem operand_any (op:Int)(h0:0≤op)(h1:op<33)(w:World):Calls Tryz.prog 14 #[.int .i64 op] w fun e w'=>e= .returned (.int .u8 (opC (ofL op).1.operand))∧Below w.heap.size w w':=by
 rcases op_cases h0 h1 with rfl|rfl|rfl|rfl|rfl|rfl|rfl|rfl|rfl|rfl|rfl|rfl|rfl|rfl|rfl|rfl|rfl|rfl|rfl|rfl|rfl|rfl|rfl|rfl|rfl|rfl|rfl|rfl|rfl|rfl|rfl|rfl|rfl<;>
 ·clear h0 h1
  go_enter Tryz.func14,Tryz.ntmps14
  go_wp2_with fail
  go_ret
  exact⟨by kernel_rfl,Below.refl _ _⟩
def opNames:List Value:=[.string ⟨#[110,111,112]⟩,.string ⟨#[112,117,115,104]⟩,.string ⟨#[112,111,112]⟩,.string ⟨#[100,117,112]⟩,.string ⟨#[115,119,97,112]⟩,.string ⟨#[97,100,100]⟩,.string ⟨#[115,117,98]⟩,.string ⟨#[109,117,108]⟩,.string ⟨#[115,97,109,101]⟩,.string ⟨#[108,101,115,115]⟩,.string ⟨#[110,111,116]⟩,.string ⟨#[106,117,109,112]⟩,.string ⟨#[117,110,108,101,115,115]⟩,.string ⟨#[108,111,97,100]⟩,.string ⟨#[115,116,111,114,101]⟩,.string ⟨#[105,110,112,117,116]⟩,.string ⟨#[110,111,119]⟩,.string ⟨#[116,105,109,101,114]⟩,.string ⟨#[119,97,105,116]⟩,.string ⟨#[99,97,110,99,101,108]⟩,.string ⟨#[99,97,108,108]⟩,.string ⟨#[106,111,105,110]⟩,.string ⟨#[115,105,103,110,97,108]⟩,.string ⟨#[112,111,108,108]⟩,.string ⟨#[97,115,107,101,100]⟩,.string ⟨#[114,101,116,117,114,110]⟩,.string ⟨#[102,97,105,108]⟩,.string ⟨#[97,103,97,105,110]⟩,.string ⟨#[101,105,116,104,101,114]⟩,.string ⟨#[112,97,99,107]⟩,.string ⟨#[105,116,101,109]⟩,.string ⟨#[115,105,122,101]⟩,.string ⟨#[99,97,116]⟩]
theorem opNames_fin:∀k:Fin 33,opNames[k.1]? =some (.string (ofL (k.1:Int)).1.name):=by
 intro k
 rcases op_cases (op:=(k.1:Int)) (by omega) (by omega)with h|h|h|h|h|h|h|h|h|h|h|h|h|h|h|h|h|h|h|h|h|h|h|h|h|h|h|h|h|h|h|h|h<;>
 ·rw[h]
  have e:k.1=(k.1:Int).toNat:=by simp
  rw[e,h]
  rfl
theorem opname_any (op:Int)(h0:0≤op)(h1:op<33)(w:World):Calls Tryz.prog 40 #[.int .i64 op] w fun e w'=>e= .returned (.string (ofL op).1.name)∧Below w.heap.size w w':=by
 obtain⟨k,rfl⟩:∃k:Nat,op=k:=⟨op.toNat,by omega⟩
 have hk:k<33:=by omega
 have e:opNames[k]? =some (.string (ofL (k:Int)).1.name):=opNames_fin ⟨k,hk⟩
 have hl:k<opNames.length:=hk
 have HN:Hid (opNames[k]= .string (ofL (k:Int)).1.name):=zhd (zge e).2
 clear e
 generalize(ofL (k:Int)).1.name=nm at*
 have h2:¬(k:Int)<0:=by omega
 have h3:¬(33:Int)≤k:=by omega
 go_enter Tryz.func40,Tryz.ntmps40
 go_wp2_with fail
 go_ret
 exact⟨congrArg Ending.returned HN.out,zal⟩
theorem below_any (F:Nat→Prop)(w:World)(i:IC)(p:Img)(k:Int)(hk:k=0∨k=1∨k=2∨k=3∨k=4∨k=5)(H:IAt F w i p):Calls Tryz.prog 45 #[.agg #[.slice i.ca i.cn i.cc,.slice i.ka i.kn i.kc,.slice i.na i.nn i.nc,.int .i64 i.pl],.int .u8 (opC k)] w fun e w'=>e= .returned (.int .i64 (mostL p k))∧Below w.heap.size w w':=by
 obtain⟨h1,h2,h3⟩:=H.lens
 have h4:=H.pl
 obtain⟨ca,cn,cc,ka,kn,kc,na,nn,nc,pl⟩:=i
 dsimp only at h1 h2 h3 h4
 have HL:=zh4 h1 h2 h3 h4
 clear H h1 h2 h3 h4
 dsimp only
 rcases hk with rfl|rfl|rfl|rfl|rfl|rfl
 ·go_enter Tryz.func45,Tryz.ntmps45
  go_wp2_with fail
  go_ret
  exact⟨rfl,zal⟩
 ·go_enter Tryz.func45,Tryz.ntmps45
  go_wp2_with fail
  go_ret
  exact⟨by rw[HL.out.2.1];rfl,zal⟩
 ·go_enter Tryz.func45,Tryz.ntmps45
  go_wp2_with fail
  go_ret
  exact⟨by rw[HL.out.2.2.1];rfl,zal⟩
 ·go_enter Tryz.func45,Tryz.ntmps45
  go_wp2_with fail
  go_ret
  exact⟨by rw[HL.out.2.2.2];rfl,zal⟩
 ·go_enter Tryz.func45,Tryz.ntmps45
  go_wp2_with fail
  go_ret
  exact⟨by rw[HL.out.1];rfl,zal⟩
 ·go_enter Tryz.func45,Tryz.ntmps45
  go_wp2_with fail
  go_ret
  exact⟨rfl,zal⟩
theorem rchk_short
  (F:Nat→Prop)(w:World)(i:IC)(p:Img)(H:IAt F w i p)(r:Int)
  (h:p.code.length=0)(hr:r=6):
  Calls Tryz.prog 13 #[.agg #[.slice i.ca i.cn i.cc,.slice i.ka i.kn i.kc,.slice i.na i.nn i.nc,.int .i64 i.pl]] w fun e w'=>e= .returned (.int .i64 r)∧Below w.heap.size w w'
  :=by
 subst hr
 have h1:=H.lens.1
 obtain⟨ca,cn,cc,ka,kn,kc,na,nn,nc,pl⟩:=i
 obtain rfl:cn=0:=by rw[←h];exact h1
 clear H h h1
 dsimp only
 go_enter Tryz.func13,Tryz.ntmps13
 go_wp2_with fail
 go_ret
 exact⟨rfl,zal⟩
theorem rchk_long
  (F:Nat→Prop)(w:World)(i:IC)(p:Img)(H:IAt F w i p)(r:Int)
  (h0:¬p.code.length=0)(h:512<p.code.length∨64<p.consts.length∨32<p.names.length)(hr:r=2):
  Calls Tryz.prog 13 #[.agg #[.slice i.ca i.cn i.cc,.slice i.ka i.kn i.kc,.slice i.na i.nn i.nc,.int .i64 i.pl]] w fun e w'=>e= .returned (.int .i64 r)∧Below w.heap.size w w'
  :=by
 subst hr
 obtain⟨h1,h2,h3⟩:=H.lens
 obtain⟨ca,cn,cc,ka,kn,kc,na,nn,nc,pl⟩:=i
 dsimp only at h1 h2 h3
 rw[←h1]at h h0
 rw[←h2,←h3]at h
 clear H h1 h2 h3
 have e0:((cn:Int)==0)=false:=by rw[beq_eq_false_iff_ne];omega
 dsimp only
 go_enter Tryz.func13,Tryz.ntmps13
 by_cases g1:512<cn
 ·have e1:(512:Int)<cn:=by omega
  clear h h0
  go_wp2_with fail
  go_ret
  exact⟨rfl,zal⟩
 ·have e1:¬(512:Int)<cn:=by omega
  by_cases g2:64<kn
  ·have e2:(64:Int)<kn:=by omega
   clear h h0
   go_wp2_with fail
   go_ret
   exact⟨rfl,zal⟩
  ·have e2:¬(64:Int)<kn:=by omega
   have e3:(32:Int)<nn:=by omega
   clear h h0
   go_wp2_with fail
   go_ret
   exact⟨rfl,zal⟩
theorem rchk_places
  (F:Nat→Prop)(w:World)(i:IC)(p:Img)(H:IAt F w i p)(r:Int)
  (h0:¬p.code.length=0)(h:p.code.length≤512∧p.consts.length≤64∧p.names.length≤32)(hp:p.places<0∨16<p.places)(hr:r=1):
  Calls Tryz.prog 13 #[.agg #[.slice i.ca i.cn i.cc,.slice i.ka i.kn i.kc,.slice i.na i.nn i.nc,.int .i64 i.pl]] w fun e w'=>e= .returned (.int .i64 r)∧Below w.heap.size w w'
  :=by
 subst hr
 obtain⟨h1,h2,h3⟩:=H.lens
 have h4:=H.pl
 obtain⟨ca,cn,cc,ka,kn,kc,na,nn,nc,pl⟩:=i
 dsimp only at h1 h2 h3 h4
 rw[←h1]at h h0
 rw[←h2,←h3]at h
 rw[←h4]at hp
 clear H h1 h2 h3 h4
 have e0:((cn:Int)==0)=false:=by rw[beq_eq_false_iff_ne];omega
 have e1:¬(512:Int)<cn:=by omega
 have e2:¬(64:Int)<kn:=by omega
 have e3:¬(32:Int)<nn:=by omega
 dsimp only
 go_enter Tryz.func13,Tryz.ntmps13
 by_cases g1:pl<0
 ·clear h h0 hp
  go_wp2_with fail
  go_ret
  exact⟨rfl,zal⟩
 ·have g2:16<pl:=by omega
  clear h h0 hp
  go_wp2_with fail
  go_ret
  exact⟨rfl,zal⟩
theorem rchk_rest
  (F:Nat→Prop)(w:World)(i:IC)(p:Img)(H:IAt F w i p)(r:Int)
  (hw:∀x∈p.consts,x.wf)(h0:¬p.code.length=0)(h:p.code.length≤512∧p.consts.length≤64∧p.names.length≤32)(hp:0≤p.places∧p.places≤16)
  (hr:(bif constErr p.consts !=0 then constErr p.consts else bif nameErr p.names !=0 then nameErr p.names else codeErr p p.code)=r):
  Calls Tryz.prog 13 #[.agg #[.slice i.ca i.cn i.cc,.slice i.ka i.kn i.kc,.slice i.na i.nn i.nc,.int .i64 i.pl]] w fun e w'=>e= .returned (.int .i64 r)∧Below w.heap.size w w'
  :=by
 obtain⟨h1,h2,h3⟩:=H.lens
 have h4:=H.pl
 have HI:=zhd H
 have hc:=H.code.elems.2.2
 have hk:=H.consts.elems.2.2
 have hn:=H.names.elems.2.2
 obtain⟨ca,cn,cc,ka,kn,kc,na,nn,nc,pl⟩:=i
 dsimp only at h1 h2 h3 h4 hc hk hn
 have HE:=zh5 hc hk hn hw hr
 have HL:=zh3 h1 h2 h3
 rw[←h1]at h h0
 rw[←h2,←h3]at h
 rw[←h4]at hp
 clear H h1 h2 h3 h4 hc hk hn hw hr
 have e0:((cn:Int)==0)=false:=by rw[beq_eq_false_iff_ne];omega
 have e1:¬(512:Int)<cn:=by omega
 have e2:¬(64:Int)<kn:=by omega
 have e3:¬(32:Int)<nn:=by omega
 have e4:¬pl<0:=by omega
 have e5:¬(16:Int)<pl:=by omega
 obtain⟨g1,g2,g3⟩:=h
 dsimp only
 go_enter Tryz.func13,Tryz.ntmps13
 go_wp2_with fail
 obtain⟨w0,hw0⟩:∃w0,w0=w.alloc (.cells #[.slice ca cn cc,.slice ka kn kc,.slice na nn nc,.int .i64 pl] 27):=⟨_,rfl⟩
 have B0:=zba hw0
 have q:∀o,w0.cell? ⟨w.heap.size,o,none⟩=(#[.slice ca cn cc,.slice ka kn kc,.slice na nn nc,.int .i64 pl]:Array Value)[o]? :=fun o=>by rw[hw0,zch (heap_alloc_new _ _)]
 have sz0:w0.heap.size=w.heap.size+1:=by rw[hw0];simp
 rw[←hw0]
 have H0:=zh3 B0 q sz0
 clear hw0 B0 q sz0 e0 e1 e2 e3 e4 e5
 go_loopg [3] (p.consts.length) (fun gk v3 wr=>∃i:Nat,v3= .int .i64 i∧i≤p.consts.length∧gk=p.consts.length - i∧constErr (p.consts.drop i)=constErr p.consts∧Below w0.heap.size w0 wr)
 case atStart=>exact⟨0,rfl,Nat.zero_le _,rfl,rfl,Below.refl _ _⟩
 case round=>
  obtain⟨i,rfl,hi,hgk,hce,hB⟩:=hrel
  have szr:=hB.size
  have BW:=H0.out.1.trans (hB.mono (show w.heap.size≤w0.heap.size by have:=H0.out.2.2;omega))
  have lt1:w.heap.size<w0.heap.size:=by have:=H0.out.2.2;omega
  have q0:=(hB.cell (p:=⟨w.heap.size,0,none⟩) lt1).trans (H0.out.2.1 0)
  have q1:=(hB.cell (p:=⟨w.heap.size,1,none⟩) lt1).trans (H0.out.2.1 1)
  have q2:=(hB.cell (p:=⟨w.heap.size,2,none⟩) lt1).trans (H0.out.2.1 2)
  have q3:=(hB.cell (p:=⟨w.heap.size,3,none⟩) lt1).trans (H0.out.2.1 3)
  simp only[List.getElem?_toArray,List.getElem?_cons_zero,List.getElem?_cons_succ]at q0 q1 q2 q3
  have ltr:w.heap.size<wr.heap.size:=by omega
  by_cases hin:i<kn
  ·obtain⟨x,hx⟩:=elem_at (l:=p.consts) (k:=i) (by have:=HL.out.2.1;omega)
   have hdr:p.consts.drop i=x::p.consts.drop (i+1):=by
    rw[List.drop_eq_getElem_cons (zge hx).1,(zge hx).2]
   rw[hdr,constErr]at hce
   obtain⟨g,off,ha,hFg,hg,hel⟩:=HE.out.2.1.resolve_left (fun e=>by rw[e]at hx;simp at hx)
   obtain⟨d,hD,m0,m1,m2,m3⟩:=hel i x hx
   subst ha
   have hgl:g<wr.heap.size:=by have:=BW.size;omega
   rw[←BW.cell (p:=⟨g,_,none⟩) hg]at m0 m1 m2 m3
   have hin':(i:Int)<kn:=by omega
   have CK:=zhd (rcheck_any x d.kind d.n d.s d.la d.ln d.lc _ wr (hD.keep (S:=fun _=>False) (zkb BW) (fun _ _ f=>f)) (HE.out.2.2.2.1 x (zmg hx)))
   generalize checkL x=cl at*
   have HX:=zh4 hce hgk hB BW
   clear hce hgk hB BW hel hD hx hdr
   go_wp2_with fail
   refine CK.out.mono ?_
   rintro e w5 ⟨np,rfl,hB5⟩
   have H5:=zhd hB5
   clear hB5 CK
   cases hz:(cl !=0)with
   |true=>
    have hr:=HE.out.2.2.2.2
    have hc:=HX.out.1
    rw[hz]at hc
    simp only[cond_true]at hc
    rw[←hc,hz]at hr
    simp only[cond_true]at hr
    have HR:=zhd hr
    clear hr hc
    go_wp2_with fail
    go_ret
    exact⟨by rw[←HR.out];rfl,HX.out.2.2.2.trans (H5.out.mono HX.out.2.2.2.size)⟩
   |false=>
    have hc:=HX.out.1
    rw[hz]at hc
    simp only[cond_false]at hc
    have HC:=zhd hc
    clear hc
    go_wp2_with fail
    go_roundg (p.consts.length - (i+1))
    case measure=>have:=HX.out.2.1;have:=HL.out.2.1;omega
    case rel=>exact⟨i+1,by simp,by have:=HL.out.2.1;omega,rfl,HC.out,HX.out.2.2.1.trans (H5.out.mono szr)⟩
  ·obtain rfl:i=kn:=by have:=HL.out.2.1;omega
   have hdn:p.consts.drop i=[]:=List.drop_eq_nil_of_le (by have:=HL.out.2.1;omega)
   rw[hdn,constErr]at hce
   have hr:=HE.out.2.2.2.2
   rw[←hce]at hr
   simp only[bne_self_eq_false,cond_false]at hr
   have HR1:=zhd hr
   have HBW:=zhd BW
   obtain⟨wm,hwm⟩:∃wm,wm=wr:=⟨_,rfl⟩
   rw[←hwm]at q0 q1 q2 q3 ltr HBW⊢
   clear hr hce hgk hdn hB BW hin hi hwm szr
   go_wp2_with fail
   go_loopg [6] (p.names.length) (fun gk v6 wr=>∃i:Nat,v6= .int .i64 i∧i≤p.names.length∧gk=p.names.length - i∧nameErr (p.names.drop i)=nameErr p.names∧wr=wm)
   case atStart=>exact⟨0,rfl,Nat.zero_le _,rfl,rfl,rfl⟩
   case round=>
    obtain⟨j,rfl,hj,hgk,hne,hwr⟩:=hrel
    subst hwr
    by_cases hjn:j<nn
    ·obtain⟨x,hx⟩:=elem_at (l:=p.names) (k:=j) (by have:=HL.out.2.2;omega)
     have hdr:p.names.drop j=x::p.names.drop (j+1):=by
      rw[List.drop_eq_getElem_cons (zge hx).1,(zge hx).2]
     rw[hdr,nameErr]at hne
     obtain⟨g,off,ha,hel⟩:=HE.out.2.2.1
     obtain⟨hFg,hg,hcs⟩:=hel j x hx
     have ha:=ha.resolve_right (fun e=>by rw[e]at hx;simp at hx)
     subst ha
     have m0:=hcs 0 _ rfl
     rw[show off+(j*sz ByteArray+0)=off+j from by simp[Cells.sz]]at m0
     rw[←HBW.out.cell (p:=⟨g,_,none⟩) hg]at m0
     have hjn':(j:Int)<nn:=by omega
     cases hz:decide (64<x.size)with
     |true=>
      have h5:(64:Int)<x.size:=by have:=of_decide_eq_true hz;omega
      rw[hz]at hne
      simp only[cond_true]at hne
      have hr:=HR1.out
      rw[←hne]at hr
      have HR:=zhd hr
      clear hr hne hgk hdr hx hcs hel hz
      go_wp2_with fail
      go_ret
      exact⟨by rw[←HR.out];rfl,HBW.out⟩
     |false=>
      have h5:¬(64:Int)<x.size:=by have:=of_decide_eq_false hz;omega
      rw[hz]at hne
      simp only[cond_false]at hne
      have HX:=zh2 hne hgk
      clear hne hgk hdr hx hcs hel hz
      go_wp2_with fail
      go_roundg (p.names.length - (j+1))
      case measure=>have:=HX.out.2;have:=HL.out.2.2;omega
      case rel=>exact⟨j+1,by simp,by have:=HL.out.2.2;omega,rfl,HX.out.1,rfl⟩
    ·obtain rfl:j=nn:=by have:=HL.out.2.2;omega
     have hdn:p.names.drop j=[]:=List.drop_eq_nil_of_le (by have:=HL.out.2.2;omega)
     rw[hdn,nameErr]at hne
     have hr:=HR1.out
     rw[←hne]at hr
     simp only[bne_self_eq_false,cond_false]at hr
     have HR2:=zhd hr
     clear hr hne hgk hdn hjn hj
     obtain⟨wm,hwm⟩:∃wm,wm=wr:=⟨_,rfl⟩
     rw[←hwm]at q0 q1 q2 q3 ltr HBW⊢
     clear hwm
     go_wp2_with fail
     go_loopg [7] (p.code.length) (fun gk v7 wr=>∃i:Nat,v7= .int .i64 i∧i≤p.code.length∧gk=p.code.length - i∧codeErr p (p.code.drop i)=r∧Below wm.heap.size wm wr)
     case atStart=>exact⟨0,rfl,Nat.zero_le _,rfl,HR2.out,Below.refl _ _⟩
     case round=>
      obtain⟨k,rfl,hk,hgk,hce,hB⟩:=hrel
      have szr:=hB.size
      have ltk:w.heap.size<wr.heap.size:=by omega
      have BW:=HBW.out.trans (hB.mono (Nat.le_of_lt ltr))
      rw[←hB.cell (p:=⟨w.heap.size,_,none⟩) ltr]at q0 q1 q2 q3
      by_cases hkn:k<cn
      ·obtain⟨c,hx⟩:=elem_at (l:=p.code) (k:=k) (by have:=HL.out.1;omega)
       have hdr:p.code.drop k=c::p.code.drop (k+1):=by
        rw[List.drop_eq_getElem_cons (zge hx).1,(zge hx).2]
       rw[hdr,codeErr]at hce
       obtain⟨g,off,ha,hel⟩:=HE.out.1
       obtain⟨hFg,hg,hcs⟩:=hel k c hx
       have ha:=ha.resolve_right (fun e=>by rw[e]at hx;simp at hx)
       subst ha
       have m0:=hcs 0 _ rfl
       have m1:=hcs 1 _ rfl
       rw[show off+(k*sz In+0)=off+k*2 from rfl,←BW.cell (p:=⟨g,_,none⟩) hg]at m0
       rw[show off+(k*sz In+1)=off+k*2+1 from rfl,←BW.cell (p:=⟨g,_,none⟩) hg]at m1
       have hkn':(k:Int)<cn:=by omega
       obtain⟨cop,cav⟩:=c
       dsimp only at m0 m1 hce
       have HX:=zh3 hgk hB BW
       have HCE:=zhd hce
       clear hgk hB BW hcs hel hdr hx hce
       obtain⟨w6,hw6⟩:∃w6,w6=wr.alloc (.cells #[.int .i64 cop,.int .i64 cav] 43):=⟨_,rfl⟩
       have B6:=zba hw6
       have sz6:wr.heap.size<w6.heap.size:=by rw[hw6];simp
       have u0:w6.cell? ⟨wr.heap.size,0,none⟩=some (.int .i64 cop):=by rw[hw6,zch (heap_alloc_new _ _)];rfl
       have u1:w6.cell? ⟨wr.heap.size,1,none⟩=some (.int .i64 cav):=by rw[hw6,zch (heap_alloc_new _ _)];rfl
       have HB6:=zhd (HX.out.2.2.trans (B6.mono HX.out.2.2.size))
       have HBr:=zhd (HX.out.2.1.trans (B6.mono szr))
       have Q6:w6.cell? ⟨w.heap.size,0,none⟩=some (.slice (some ⟨g,off,none⟩) cn cc)∧w6.cell? ⟨w.heap.size,1,none⟩=some (.slice ka i kc)∧w6.cell? ⟨w.heap.size,2,none⟩=some (.slice na j nc)∧w6.cell? ⟨w.heap.size,3,none⟩=some (.int .i64 pl):=by
        rw[B6.cell (p:=⟨w.heap.size,0,none⟩) ltk,B6.cell (p:=⟨w.heap.size,1,none⟩) ltk,B6.cell (p:=⟨w.heap.size,2,none⟩) ltk,B6.cell (p:=⟨w.heap.size,3,none⟩) ltk]
        exact⟨q0,q1,q2,q3⟩
       have lt6:w.heap.size<w6.heap.size:=by omega
       cases hok:(ofL cop).2 with
       |false=>
        have hc:=HCE.out
        rw[hok]at hc
        simp only[Bool.not_false,cond_true]at hc
        have HR:=zhd hc
        have hno:¬(0≤cop∧cop<33):=fun h=>by rw[ok_range.2 h]at hok;cases hok
        clear hc hok Q6
        by_cases hneg:cop<0
        ·go_wp2_with fail
         rw[←hw6]
         clear hw6 B6
         go_ret
         exact⟨by rw[←HR.out];rfl,HB6.out⟩
        ·have h33:(33:Int)≤cop:=by omega
         go_wp2_with fail
         rw[←hw6]
         clear hw6 B6
         go_ret
         exact⟨by rw[←HR.out];rfl,HB6.out⟩
       |true=>
        have hc:=HCE.out
        rw[hok]at hc
        simp only[Bool.not_true,cond_false]at hc
        have hyes:=ok_range.1 hok
        have n1:¬cop<0:=by omega
        have n2:¬(33:Int)≤cop:=by omega
        have OP:=zhd (fun W=>operand_any cop hyes.1 hyes.2 W)
        clear hok
        go_wp2_with fail
        rw[←hw6]
        obtain⟨q0,q1,q2,q3⟩:=Q6
        clear hw6 B6
        cases hneg:decide (cav<0)with
        |true=>
         rw[hneg]at hc
         simp only[Bool.true_or,cond_true]at hc
         have HR:=zhd hc
         have h6:cav<0:=of_decide_eq_true hneg
         clear hc
         refine wp_region_ext (by kernel_rfl) (by kernel_rfl) ?_
         repeat(go_big_quiet_step (fail))
         refine wpQuiet_nil ?_
         intro w7 hB7
         go_wp2_with fail
         go_ret
         exact⟨by rw[←HR.out];rfl,HB6.out.trans (hB7.mono HB6.out.size)⟩
        |false=>
         rw[hneg]at hc
         simp only[Bool.false_or]at hc
         have h6:¬cav<0:=of_decide_eq_false hneg
         have MO:=zhd (fun W (hW:Below w6.heap.size w6 W)=>below_any _ W ⟨some ⟨g,off,none⟩,cn,cc,ka,i,kc,na,j,nc,pl⟩ p (ofL cop).1.operand (operand_bd6 cop) (HI.out.keep (S:=fun _=>False) (zkb (HB6.out.trans (hW.mono HB6.out.size))) (fun _ _ f=>f)))
         generalize(ofL cop).1.operand=ko at*
         generalize mostL p ko=mo at*
         cases hge:decide (mo≤cav)with
         |true=>
          rw[hge]at hc
          simp only[cond_true]at hc
          have HR:=zhd hc
          have h7:mo≤cav:=of_decide_eq_true hge
          clear hc hneg hge
          refine wp_region_ext (by kernel_rfl) (by kernel_rfl) ?_
          repeat(go_big_quiet_step (first|(go_at_call 14;exact ext_call (OP.out _))|(go_at_call 45;exact ext_call (MO.out _ (Subtype.property _)))))
          refine wpQuiet_nil ?_
          intro w7 hB7
          go_wp2_with fail
          go_ret
          exact⟨by rw[←HR.out];rfl,HB6.out.trans (hB7.mono HB6.out.size)⟩
         |false=>
          rw[hge]at hc
          simp only[cond_false]at hc
          have HR:=zhd hc
          have h7:¬mo≤cav:=of_decide_eq_false hge
          clear hc hneg hge
          refine wp_region_ext (by kernel_rfl) (by kernel_rfl) ?_
          repeat(go_big_quiet_step (first|(go_at_call 14;exact ext_call (OP.out _))|(go_at_call 45;exact ext_call (MO.out _ (Subtype.property _)))))
          refine wpQuiet_nil ?_
          intro w7 hB7
          go_wp2_with fail
          go_roundg (p.code.length - (k+1))
          case measure=>have:=HX.out.1;have:=HL.out.1;omega
          case rel=>exact⟨k+1,by simp,by have:=HL.out.1;omega,rfl,HR.out,HBr.out.trans (hB7.mono HBr.out.size)⟩
      ·obtain rfl:k=cn:=by have:=HL.out.1;omega
       have hdn:p.code.drop k=[]:=List.drop_eq_nil_of_le (by have:=HL.out.1;omega)
       rw[hdn,codeErr]at hce
       have HR:=zhd hce
       have HBE:=zhd BW
       clear hce hgk hB BW
       go_wp2_with fail
       go_ret
       exact⟨by rw[←HR.out];rfl,HBE.out⟩
theorem rimg_any
  (F:Nat→Prop)(w:World)(i:IC)(p:Img)(H:IAt F w i p)(r:Int)
  (hw:∀x∈p.consts,x.wf)(hr:imgL p=r):
  Calls Tryz.prog 13 #[.agg #[.slice i.ca i.cn i.cc,.slice i.ka i.kn i.kc,.slice i.na i.nn i.nc,.int .i64 i.pl]] w fun e w'=>e= .returned (.int .i64 r)∧Below w.heap.size w w'
  :=by
 unfold imgL at hr
 by_cases h0:p.code.length=0
 ·rw[decide_eq_true h0]at hr
  exact rchk_short F w i p H r h0 hr.symm
 ·rw[decide_eq_false h0]at hr
  simp only[cond_false]at hr
  by_cases h1:512<p.code.length∨64<p.consts.length∨32<p.names.length
  ·have e:(decide (512<p.code.length)||(decide (64<p.consts.length)||decide (32<p.names.length)))=true:=by simpa using h1
   rw[e]at hr
   exact rchk_long F w i p H r h0 h1 hr.symm
  ·have e:(decide (512<p.code.length)||(decide (64<p.consts.length)||decide (32<p.names.length)))=false:=by
    rw[Bool.eq_false_iff]
    exact fun h=>h1 (by simpa using h)
   rw[e]at hr
   simp only[cond_false]at hr
   by_cases h2:p.places<0∨16<p.places
   ·have e:(decide (p.places<0)||decide (16<p.places))=true:=by simpa using h2
    rw[e]at hr
    exact rchk_places F w i p H r h0 (by omega) h2 hr.symm
   ·have e:(decide (p.places<0)||decide (16<p.places))=false:=by
     rw[Bool.eq_false_iff]
     exact fun h=>h2 (by simpa using h)
    rw[e]at hr
    exact rchk_rest F w i p H r hw h0 (by omega) (by omega) hr
end Go.Proofs.YtakljipkaoahnaaGreatDoor
namespace Go.Proofs.YtakljipkaoahnaaGreatDoor
open Go.RowKit Go.Own Go.Own.MapTy Go.Va Go.Sort
theorem constErr_all:∀{l:List Val},(∀x∈l,checkL x=0)→constErr l=0
 |[],_=>rfl
 |x::r,h=>by
  rw[constErr,h x List.mem_cons_self]
  exact constErr_all (fun y hy=>h y (List.mem_cons_of_mem _ hy))
def argOf (p:Img)(c:In):Arg:=
 bif (ofL c.op).1.operand==1 then .val (cloneV (p.consts[c.a.toNat]?.getD vNil))else
 bif (ofL c.op).1.operand==2 then .name (p.names[c.a.toNat]?.getD ⟨#[]⟩)else
 bif (ofL c.op).1.operand==3 then .place c.a else .int c.a
structure PutOk (l:List (Int×Arg))(n:Nat):Prop where
 fit:∀m∈l,fitA m
 op:∀m∈l,(ofL m.1).2=true
 val:∀op x,(op,Arg.val x)∈l→checkL x=0
 int:∀op k,(op,Arg.int k)∈l→0≤k∧k<(if(ofL op).1.operand=4 then(n:Int)else if(ofL op).1.operand=5 then 17 else 1)
def SameAt (p q:Img)(c d:In):Prop:=
 c.op=d.op∧((ofL c.op).1.operand=1→∃(i j:Nat) (x y:Val),c.a=i∧d.a=j∧p.consts[i]? =some x∧q.consts[j]? =some y∧cloneV x=cloneV y)∧
 ((ofL c.op).1.operand=2→∃(i j:Nat) (s:ByteArray),c.a=i∧d.a=j∧p.names[i]? =some s∧q.names[j]? =some s)∧
 ((ofL c.op).1.operand≠0→(ofL c.op).1.operand≠1→(ofL c.op).1.operand≠2→c.a=d.a)
theorem at_ok {p:Img}(h:imgL p=0){c:In}(hc:c∈p.code):(ofL c.op).2=true∧0≤c.a∧((ofL c.op).1.operand=1→∃x,p.consts[c.a.toNat]? =some x)∧((ofL c.op).1.operand=2→∃x,p.names[c.a.toNat]? =some x)∧((ofL c.op).1.operand=3→c.a+1≤p.places)∧((ofL c.op).1.operand=4→c.a<p.code.length)∧((ofL c.op).1.operand=5→c.a<17)∧((ofL c.op).1.operand=0→c.a<1):=by
 obtain⟨_,_,_,_,_,_,_,_,h6⟩:=imgL_ok h
 obtain⟨h1,h2,h3⟩:=h6 c hc
 refine⟨h1,h2,fun e=> ?_,fun e=> ?_,fun e=> ?_,fun e=> ?_,fun e=> ?_,fun e=> ?_⟩
 ·rw[e]at h3
  have h3:c.a<(p.consts.length:Int):=h3
  exact⟨_,List.getElem?_eq_getElem (by omega)⟩
 ·rw[e]at h3
  have h3:c.a<(p.names.length:Int):=h3
  exact⟨_,List.getElem?_eq_getElem (by omega)⟩
 ·rw[e]at h3;have h3:c.a<p.places:=h3;omega
 ·rw[e]at h3;exact h3
 ·rw[e]at h3;exact h3
 ·rw[e]at h3;exact h3
end Go.Proofs.YtakljipkaoahnaaGreatDoor
namespace Go.Va
open Go.Own Go.RowKit Go.Own.MapTy
inductive OkV:Nat→Val→Prop
 |nil (n:Nat) (x:Val) (h:x.kind=0):OkV n x
 |int (n:Nat) (x:Val) (h:x.kind=1) (h0: -9223372036854775808≤x.num) (h1:x.num≤9223372036854775807):OkV n x
 |txt (n:Nat) (x:Val) (h:x.kind=2):OkV n x
 |list (n:Nat) (x:Val) (h:x.kind=3) (hl:∀y∈x.list,OkV n y):OkV (n+1) x
def prL (x:Val):List UInt8:=(printV x).data.toList
def sepL (l:List Val):List UInt8:=l.flatMap fun y=>32::prL y
end Go.Va
