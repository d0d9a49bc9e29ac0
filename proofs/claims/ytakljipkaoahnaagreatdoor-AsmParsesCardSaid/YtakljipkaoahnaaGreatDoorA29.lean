/- Parts of the proof: what the functions and the plain laws give that later parts lean on. Conditions: none beyond those that each theorem names. -/
import Derived.Test.YtakljipkaoahnaaGreatDoorA19
set_option maxRecDepth 100000
set_option maxHeartbeats 8000000
namespace Go.Proofs.YtakljipkaoahnaaGreatDoor
open Go.RowKit Go.Own Go.Own.MapTy Go.Va Go.Sort
open Go.Own.Cells (sz enc)
def text3:ByteArray:=⟨#[115,116,97,114,116,58,10,32,32,115,105,103,110,97,108,32,34,103,111,34,10,32,32,112,111,112,10,32,32,106,117,109,112,32,115,116,97,114,116,10]⟩
theorem asm3:asmL text3=(img1,0,0):=by kernel_rfl
theorem prt1:asmP img1=(text1,0):=by kernel_rfl
theorem tdy1:tidyP img1=(img1,0):=by kernel_rfl
theorem tidy_any
  (F:Nat→Prop)(w:World)(i:IC)(p:Img)(H:IAt F w i p)(hw:∀x∈p.consts,x.wf)
  (q:Img×Int)(hq:tidyP p=q):
  Calls Tryz.prog 32 #[.agg #[.slice i.ca i.cn i.cc,.slice i.ka i.kn i.kc,.slice i.na i.nn i.nc,.int .i64 i.pl]] w (TdPost w q):=by
 subst hq
 unfold tidyP
 cases h:(imgL p !=0)with
 |true=>exact tidy_bad F w i p H hw _ rfl h
 |false=>exact tidy_good F w i p H hw (by simpa using h) _ rfl
theorem reads_true {N:Nat}(w:World)(G:Gl Tryz.prog N w):Calls Tryz.prog 9 #[] w fun e w'=>e= .returned (.bool true)∧Below w.heap.size w w':=by
 have HG:=zhd G
 clear G
 have PA:=zhd (fun W (G:Gl Tryz.prog N W)=>asm3▸asm_any text3 W G)
 go_enter Tryz.func9,Tryz.ntmps9
 go_wp2_with fail
 refine(PA.out _ HG.out).mono ?_
 rintro e w1 ⟨i1,rfl,hI1,hB1⟩
 have hp1:=hI1.pl
 obtain⟨l1,l2,l3⟩:=hI1.lens
 obtain⟨ca,cn,cc,ka,kn,kc,na,nn,nc,pl⟩:=i1
 dsimp only at hp1 l1 l2 l3
 obtain rfl:cn=3:=l1
 obtain rfl:kn=0:=l2
 obtain rfl:nn=1:=l3
 obtain rfl:pl=0:=hp1
 have CP:=zhd (fun W (K:Below w1.heap.size w1 W) (G:Gl Tryz.prog N W)=>prt1▸print_prog _ W _ img1 (hI1.keep (S:=fun _=>False) (zkb K) (fun _ _ f=>f)) G (by intro x hx;cases hx))
 have CT:=zhd (fun W (K:Below w1.heap.size w1 W)=>tidy_any _ W _ img1 (hI1.keep (S:=fun _=>False) (zkb K) (fun _ _ f=>f)) (by intro x hx;cases hx) _ tdy1)
 obtain⟨g,off,ha,_,hg,hcs⟩:=hI1.code.at_ (i:=2) (x:=⟨11,0⟩) rfl
 have y0:=hcs 0 _ rfl
 dsimp only at ha
 subst ha
 obtain⟨w2,hw2⟩:∃w2,w2=(w1.alloc (.cells #[.slice (some ⟨g,off,none⟩) 3 cc,.slice ka 0 kc,.slice na 1 nc,.int .i64 0] 27)).alloc (.cells #[.int .i64 0,.int .i64 0] 30):=⟨_,rfl⟩
 have B2:Below w1.heap.size w1 w2:=by rw[hw2];exact(zal).alloc (by simp) _
 have b2:w2.heap[w1.heap.size]? =some (.cells #[.slice (some ⟨g,off,none⟩) 3 cc,.slice ka 0 kc,.slice na 1 nc,.int .i64 0] 27 (0,0)):=by rw[hw2];exact heap_lt2
 have b3:w2.heap[w1.heap.size+1]? =some (.cells #[.int .i64 0,.int .i64 0] 30 (0,0)):=by rw[hw2];exact heap_new2
 have HB:=zhd (hB1.trans (B2.mono hB1.size))
 have H2:=zh5 B2 b2 b3 y0 hg
 clear hI1 hB1 PA hcs b2 b3 B2 y0 hg
 go_wp2_with fail
 rw[←hw2]
 clear hw2
 refine(CP.out _ H2.out.1 (HG.out.below HB.out)).mono ?_
 rintro e w3 ⟨rfl,hB3⟩
 have B13:=H2.out.1.trans (hB3.mono H2.out.1.size)
 have H3:=zh4 B13 ((hB3.block _ (zlt H2.out.2.1)).trans H2.out.2.1) ((hB3.block _ (zlt H2.out.2.2.1)).trans H2.out.2.2.1) hB3
 have q0:∀o,w3.cell? ⟨w1.heap.size,o,none⟩=(#[.slice (some ⟨g,off,none⟩) 3 cc,.slice ka 0 kc,.slice na 1 nc,.int .i64 0]:Array Value)[o]? :=fun o=>by rw[zch H3.out.2.1]
 have p0:=q0 0
 have p1:=q0 1
 have p2:=q0 2
 have p3:=q0 3
 simp only[List.getElem?_toArray,List.getElem?_cons_zero,List.getElem?_cons_succ]at p0 p1 p2 p3
 have lt3:=zlt H3.out.2.1
 clear q0 hB3 B13 CP
 go_wp2_with fail
 refine(CT.out _ H3.out.1).mono ?_
 rintro e w4 ⟨⟨da,dn,dc,ea,en,ec,fa,fn,fc,pm⟩,rfl,H4⟩
 dsimp only[IC.cells]
 have B4:=H4.out.2
 have B24:=H3.out.2.2.2.trans (B4.mono H3.out.2.2.2.size)
 have B14:=H3.out.1.trans (B4.mono H3.out.1.size)
 have x0:=(B4.block _ (zlt H3.out.2.1)).trans H3.out.2.1
 have x1:=(B4.block _ (zlt H3.out.2.2.1)).trans H3.out.2.2.1
 have q0:∀o,w4.cell? ⟨w1.heap.size,o,none⟩=(#[.slice (some ⟨g,off,none⟩) 3 cc,.slice ka 0 kc,.slice na 1 nc,.int .i64 0]:Array Value)[o]? :=fun o=>by rw[zch x0]
 have q1:∀o,w4.cell? ⟨w1.heap.size+1,o,none⟩=(#[.int .i64 0,.int .i64 0]:Array Value)[o]? :=fun o=>by rw[zch x1]
 have r0:=q0 0
 have r2:=q0 2
 have s0:=q1 0
 have s1:=q1 1
 simp only[List.getElem?_toArray,List.getElem?_cons_zero,List.getElem?_cons_succ]at r0 r2 s0 s1
 have y0:=(B14.cell (p:=⟨g,_,none⟩) H2.out.2.2.2.2).trans H2.out.2.2.2.1
 rw[show off+(2*sz In+0)=off+4 from rfl]at y0
 have hg:=Nat.lt_of_lt_of_le H2.out.2.2.2.2 B14.size
 have lt0:=zlt x0
 have lt1:=zlt x1
 have l4:=H4.out.1.lens.1
 dsimp only at l4
 obtain rfl:dn=3:=l4
 have BZ:=zhd (HB.out.trans (B24.mono HB.out.size))
 clear p0 p1 p2 p3 x0 x1 q0 q1 B4 B14 B24 CT H4 H3 H2 lt3
 go_wp2_with fail
 go_ret
 exact⟨by simp[ByteArray.toList_eq,text1],BZ.out.alloc BZ.out.size _⟩
end Go.Proofs.YtakljipkaoahnaaGreatDoor
namespace Go.Va
open Go.Own Go.RowKit
def cmpR:Val→Val→Int
 | .mk k n s l,y=>
   bif k !=y.kind then wrap64 (k - y.kind)else
   bif k==1 then(bif decide (n<y.num)then -1 else bif decide (y.num<n)then 1 else 0)else
   bif k==2 then(bif Op.bytesLess s.toList y.txt.toList then -1 else bif !(Op.bytesLess s.toList y.txt.toList||s.toList==y.txt.toList)then 1 else 0)else
   bif k !=3 then 0 else cmpRs l y.list ((l.length:Int) - y.list.length)
where cmpRs:List Val→List Val→Int→Int
 |[],_,d=>d
 |_::_,[],d=>d
 |x::r,y::s,d=>bif cmpR x y !=0 then cmpR x y else cmpRs r s d
theorem cmpR_eq (x y:Val):cmpR x y=
  bif x.kind !=y.kind then wrap64 (x.kind - y.kind)else
  bif x.kind==1 then(bif decide (x.num<y.num)then -1 else bif decide (y.num<x.num)then 1 else 0)else
  bif x.kind==2 then(bif Op.bytesLess x.txt.toList y.txt.toList then -1 else bif !(Op.bytesLess x.txt.toList y.txt.toList||x.txt.toList==y.txt.toList)then 1 else 0)else
  bif x.kind !=3 then 0 else cmpR.cmpRs x.list y.list ((x.list.length:Int) - y.list.length):=by
 cases x
 rw[cmpR]
 rfl
theorem cmpRs_nil (ys:List Val)(d:Int):cmpR.cmpRs [] ys d=d:=by cases ys<;>rw[cmpR.cmpRs]
theorem cmpRs_one (xs:List Val)(d:Int):cmpR.cmpRs xs [] d=d:=by cases xs<;>rw[cmpR.cmpRs]
theorem cmpRs_cons (x y:Val)(r s:List Val)(d:Int):cmpR.cmpRs (x::r) (y::s) d=bif cmpR x y !=0 then cmpR x y else cmpR.cmpRs r s d:=by rw[cmpR.cmpRs]
theorem bytesLess_irr:∀l:List UInt8,Op.bytesLess l l=false
 |[]=>rfl
 |a::r=>by
  rw[Op.bytesLess,bytesLess_irr r]
  simp
mutual
theorem cmpR_zero:∀x y:Val,x.wf→y.wf→(cmpR x y=0↔cloneV x=cloneV y)
 | .mk k n s l,y,hx,hy=>by
   have hx2:=(Val.wf_eq _).1 hx
   have hy2:=(Val.wf_eq _).1 hy
   have kx: -9223372036854775808≤k∧k≤9223372036854775807:=hx2.1
   have ky:=hy2.1
   rw[cmpR_eq,Val.ext4,clone_kind,clone_kind,clone_num,clone_num,clone_txt,clone_txt,clone_list,clone_list]
   show(bif k !=y.kind then wrap64 (k - y.kind)else bif k==1 then(bif decide (n<y.num)then -1 else bif decide (y.num<n)then 1 else 0)else bif k==2 then(bif Op.bytesLess s.toList y.txt.toList then -1 else bif !(Op.bytesLess s.toList y.txt.toList||s.toList==y.txt.toList)then 1 else 0)else bif k !=3 then 0 else cmpR.cmpRs l y.list ((l.length:Int) - y.list.length))=0↔k=y.kind∧(bif k==1 then n else 0)=_∧(bif k==2 then s else _)=_∧(bif k==3 then l.map cloneV else _)=_
   by_cases hk:k=y.kind
   ·rw[←hk]
    have e0:(k !=k)=false:=by simp
    rw[e0]
    by_cases h1:k=1
    ·subst h1
     simp only[beq_self_eq_true,cond_true,cond_false,true_and,show((1:Int)==2)=false from rfl,show((1:Int)==3)=false from rfl,and_true]
     by_cases n1:n<y.num
     ·rw[decide_eq_true n1];simp;omega
     ·rw[decide_eq_false n1]
      by_cases n2:y.num<n
      ·rw[decide_eq_true n2];simp;omega
      ·rw[decide_eq_false n2];simp;omega
    ·have e1:(k==1)=false:=by simpa using h1
     by_cases h2:k=2
     ·subst h2
      simp only[beq_self_eq_true,cond_true,cond_false,true_and,show((2:Int)==1)=false from rfl,show((2:Int)==3)=false from rfl,and_true]
      by_cases hs:s=y.txt
      ·rw[hs,bytesLess_irr];simp
      ·have hs2:(s.toList==y.txt.toList)=false:=by
        rw[beq_eq_false_iff_ne]
        intro e
        rw[ByteArray.toList_eq,ByteArray.toList_eq]at e
        exact hs (bytes_inj.1 e)
       rw[hs2]
       cases Op.bytesLess s.toList y.txt.toList<;>simp[hs]
     ·have e2:(k==2)=false:=by simpa using h2
      by_cases h3:k=3
      ·subst h3
       simp only[beq_self_eq_true,cond_true,cond_false,true_and,show((3:Int)==1)=false from rfl,show((3:Int)==2)=false from rfl,show((3:Int)!=3)=false from rfl]
       exact cmpRs_zero l y.list (Val.wfL_iff.1 hx2.2.2.2) (Val.wfL_iff.1 hy2.2.2.2)
      ·have e3:(k==3)=false:=by simpa using h3
       have e4:(k !=3)=true:=by simpa using h3
       simp[e1,e2,e3,e4]
   ·have e0:(k !=y.kind)=true:=by simpa using hk
    rw[e0]
    simp only[cond_true,hk,false_and,iff_false]
    intro h
    unfold wrap64 at h
    omega
theorem cmpRs_zero:∀xs ys:List Val,(∀x∈xs,x.wf)→(∀y∈ys,y.wf)→(cmpR.cmpRs xs ys ((xs.length:Int) - ys.length)=0↔xs.map cloneV=ys.map cloneV)
 |[],[],_,_=>by rw[cmpRs_nil];simp
 |[],y::s,_,_=>by rw[cmpRs_nil];simp;omega
 |x::r,[],_,_=>by rw[cmpRs_one];simp;omega
 |x::r,y::s,hx,hy=>by
  have h1:=cmpR_zero x y (hx x List.mem_cons_self) (hy y List.mem_cons_self)
  have h2:=cmpRs_zero r s (fun z hz=>hx z (List.mem_cons_of_mem _ hz)) (fun z hz=>hy z (List.mem_cons_of_mem _ hz))
  rw[cmpRs_cons,List.map_cons,List.map_cons]
  have hl:(((x::r).length:Nat):Int) - ((y::s).length:Nat)=(r.length:Int) - s.length:=by simp only[List.length_cons];omega
  rw[hl]
  by_cases h:cmpR x y=0
  ·have e:(cmpR x y !=0)=false:=by simpa using h
   rw[e,cond_false,h2,h1.1 h]
   simp
  ·have e:(cmpR x y !=0)=true:=by simpa using h
   rw[e,cond_true]
   refine⟨fun hh=>absurd hh h,fun hh=>absurd (h1.2 ?_) h⟩
   exact(List.cons.inj hh).1
end
end Go.Va
namespace Go.Proofs.YtakljipkaoahnaaGreatDoor
open Go.RowKit Go.Own Go.Own.MapTy Go.Va Go.Sort
open Go.Own.Cells (sz enc)
theorem rcmp_kind (x y:Val)
  (ck cn:Int)(cs:ByteArray)(la:Option Addr)(ln lc:Nat)(dk dn:Int)(ds:ByteArray)(ma:Option Addr)(mn mc:Nat)(F F':Nat→Prop)(w:World)(C:CF F w ⟨ck,cn,cs,la,ln,lc⟩ x)(D:CF F' w ⟨dk,dn,ds,ma,mn,mc⟩ y)(r:Int)(hr:cmpR x y=r)
  (hk:(ck !=dk)=true):
  Calls Tryz.prog 43 #[.agg #[.int .i64 ck,.int .i64 cn,.string cs,.slice la ln lc],.agg #[.int .i64 dk,.int .i64 dn,.string ds,.slice ma mn mc]] w fun e w'=>e= .returned (.int .i64 r)∧Below w.heap.size w w'
  :=by
 rw[cmpR_eq]at hr
 have h1:ck=x.kind:=C.kind
 have h2:cn=x.num:=C.n
 have h3:cs=x.txt:=C.s
 have g1:dk=y.kind:=D.kind
 have g2:dn=y.num:=D.n
 have g3:ds=y.txt:=D.s
 rw[←h1,←h2,←h3,←g1,←g2,←g3]at hr
 clear h1 h2 h3 g1 g2 g3
 have HC:=zh2 C D
 clear C D
 rw[hk]at hr
 simp only[cond_true]at hr
 have hk2:(ck==dk)=false:=by simpa using hk
 have HR:=zhd hr
 clear hr
 have HB:=zhd ((((Below.refl w.heap.size w).alloc (Nat.le_refl _) (.cells #[.int .i64 ck,.int .i64 cn,.string cs,.slice la ln lc] 39)).alloc (by simp) (.cells #[.int .i64 dk,.int .i64 dn,.string ds,.slice ma mn mc] 39)))
 go_enter Tryz.func43,Tryz.ntmps43
 go_wp2_with fail
 go_ret
 exact⟨by rw[←HR.out];rfl,HB.out⟩
theorem rcmp_int (x y:Val)
  (ck cn:Int)(cs:ByteArray)(la:Option Addr)(ln lc:Nat)(dk dn:Int)(ds:ByteArray)(ma:Option Addr)(mn mc:Nat)(F F':Nat→Prop)(w:World)(C:CF F w ⟨ck,cn,cs,la,ln,lc⟩ x)(D:CF F' w ⟨dk,dn,ds,ma,mn,mc⟩ y)(r:Int)(hr:cmpR x y=r)
  (hk:ck=dk)(h1:ck=1):
  Calls Tryz.prog 43 #[.agg #[.int .i64 ck,.int .i64 cn,.string cs,.slice la ln lc],.agg #[.int .i64 dk,.int .i64 dn,.string ds,.slice ma mn mc]] w fun e w'=>e= .returned (.int .i64 r)∧Below w.heap.size w w'
  :=by
 rw[cmpR_eq]at hr
 have h1:ck=x.kind:=C.kind
 have h2:cn=x.num:=C.n
 have h3:cs=x.txt:=C.s
 have g1:dk=y.kind:=D.kind
 have g2:dn=y.num:=D.n
 have g3:ds=y.txt:=D.s
 rw[←h1,←h2,←h3,←g1,←g2,←g3]at hr
 clear h1 h2 h3 g1 g2 g3
 have HC:=zh2 C D
 clear C D
 have hk1:(ck !=dk)=false:=by rw[hk];simp
 rw[hk1]at hr
 simp only[cond_false]at hr
 subst hk
 have HB:=zhd ((((Below.refl w.heap.size w).alloc (Nat.le_refl _) (.cells #[.int .i64 ck,.int .i64 cn,.string cs,.slice la ln lc] 39)).alloc (by simp) (.cells #[.int .i64 ck,.int .i64 dn,.string ds,.slice ma mn mc] 39)))
 clear hk1
 subst h1
 simp only[beq_self_eq_true,cond_true]at hr
 cases n1:decide (cn<dn)with
 |true=>
  rw[n1]at hr
  simp only[cond_true]at hr
  have n1':=of_decide_eq_true n1
  have HR:=zhd hr
  clear hr
  go_enter Tryz.func43,Tryz.ntmps43
  go_wp2_with fail
  go_ret
  exact⟨by rw[←HR.out];rfl,HB.out⟩
 |false=>
  rw[n1]at hr
  simp only[cond_false]at hr
  have n1':=of_decide_eq_false n1
  cases n2:decide (dn<cn)with
  |true=>
   rw[n2]at hr
   simp only[cond_true]at hr
   have n2':=of_decide_eq_true n2
   have HR:=zhd hr
   clear hr
   go_enter Tryz.func43,Tryz.ntmps43
   go_wp2_with fail
   go_ret
   exact⟨by rw[←HR.out];rfl,HB.out⟩
  |false=>
   rw[n2]at hr
   simp only[cond_false]at hr
   have n2':=of_decide_eq_false n2
   have HR:=zhd hr
   clear hr
   go_enter Tryz.func43,Tryz.ntmps43
   go_wp2_with fail
   go_ret
   exact⟨by rw[←HR.out];rfl,HB.out⟩
theorem rcmp_text (x y:Val)
  (ck cn:Int)(cs:ByteArray)(la:Option Addr)(ln lc:Nat)(dk dn:Int)(ds:ByteArray)(ma:Option Addr)(mn mc:Nat)(F F':Nat→Prop)(w:World)(C:CF F w ⟨ck,cn,cs,la,ln,lc⟩ x)(D:CF F' w ⟨dk,dn,ds,ma,mn,mc⟩ y)(r:Int)(hr:cmpR x y=r)
  (hk:ck=dk)(h1:ck=2):
  Calls Tryz.prog 43 #[.agg #[.int .i64 ck,.int .i64 cn,.string cs,.slice la ln lc],.agg #[.int .i64 dk,.int .i64 dn,.string ds,.slice ma mn mc]] w fun e w'=>e= .returned (.int .i64 r)∧Below w.heap.size w w'
  :=by
 rw[cmpR_eq]at hr
 have h1:ck=x.kind:=C.kind
 have h2:cn=x.num:=C.n
 have h3:cs=x.txt:=C.s
 have g1:dk=y.kind:=D.kind
 have g2:dn=y.num:=D.n
 have g3:ds=y.txt:=D.s
 rw[←h1,←h2,←h3,←g1,←g2,←g3]at hr
 clear h1 h2 h3 g1 g2 g3
 have HC:=zh2 C D
 clear C D
 have hk1:(ck !=dk)=false:=by rw[hk];simp
 rw[hk1]at hr
 simp only[cond_false]at hr
 subst hk
 have HB:=zhd ((((Below.refl w.heap.size w).alloc (Nat.le_refl _) (.cells #[.int .i64 ck,.int .i64 cn,.string cs,.slice la ln lc] 39)).alloc (by simp) (.cells #[.int .i64 ck,.int .i64 dn,.string ds,.slice ma mn mc] 39)))
 clear hk1
 subst h1
 have e1:((2:Int)==1)=false:=rfl
 rw[e1]at hr
 simp only[beq_self_eq_true,cond_true,cond_false]at hr
 clear e1
 cases n1:Op.bytesLess cs.toList ds.toList with
 |true=>
  rw[n1]at hr
  simp only[cond_true]at hr
  have HR:=zhd hr
  clear hr
  go_enter Tryz.func43,Tryz.ntmps43
  go_wp2_with fail
  go_ret
  exact⟨by rw[←HR.out];rfl,HB.out⟩
 |false=>
  rw[n1]at hr
  simp only[cond_false,Bool.false_or]at hr
  cases n2:(cs.toList==ds.toList)with
  |true=>
   rw[n2]at hr
   have HR:=zhd hr
   clear hr
   go_enter Tryz.func43,Tryz.ntmps43
   go_wp2_with fail
   go_ret
   exact⟨by rw[←HR.out];rfl,HB.out⟩
  |false=>
   rw[n2]at hr
   have HR:=zhd hr
   clear hr
   go_enter Tryz.func43,Tryz.ntmps43
   go_wp2_with fail
   go_ret
   exact⟨by rw[←HR.out];rfl,HB.out⟩
theorem rcmp_other (x y:Val)
  (ck cn:Int)(cs:ByteArray)(la:Option Addr)(ln lc:Nat)(dk dn:Int)(ds:ByteArray)(ma:Option Addr)(mn mc:Nat)(F F':Nat→Prop)(w:World)(C:CF F w ⟨ck,cn,cs,la,ln,lc⟩ x)(D:CF F' w ⟨dk,dn,ds,ma,mn,mc⟩ y)(r:Int)(hr:cmpR x y=r)
  (hk:ck=dk)(h1:(ck==1)=false)(h2:(ck==2)=false)(h3:(ck==3)=false):
  Calls Tryz.prog 43 #[.agg #[.int .i64 ck,.int .i64 cn,.string cs,.slice la ln lc],.agg #[.int .i64 dk,.int .i64 dn,.string ds,.slice ma mn mc]] w fun e w'=>e= .returned (.int .i64 r)∧Below w.heap.size w w'
  :=by
 rw[cmpR_eq]at hr
 have h1:ck=x.kind:=C.kind
 have h2:cn=x.num:=C.n
 have h3:cs=x.txt:=C.s
 have g1:dk=y.kind:=D.kind
 have g2:dn=y.num:=D.n
 have g3:ds=y.txt:=D.s
 rw[←h1,←h2,←h3,←g1,←g2,←g3]at hr
 clear h1 h2 h3 g1 g2 g3
 have HC:=zh2 C D
 clear C D
 have hk1:(ck !=dk)=false:=by rw[hk];simp
 rw[hk1]at hr
 simp only[cond_false]at hr
 subst hk
 have HB:=zhd ((((Below.refl w.heap.size w).alloc (Nat.le_refl _) (.cells #[.int .i64 ck,.int .i64 cn,.string cs,.slice la ln lc] 39)).alloc (by simp) (.cells #[.int .i64 ck,.int .i64 dn,.string ds,.slice ma mn mc] 39)))
 clear hk1
 have h4:(ck !=3)=true:=by simpa using h3
 rw[h1,h2,h4]at hr
 simp only[cond_false,cond_true]at hr
 have HR:=zhd hr
 clear hr
 go_enter Tryz.func43,Tryz.ntmps43
 go_wp2_with fail
 go_ret
 exact⟨by rw[←HR.out];rfl,HB.out⟩
def RCRel (w2:World)(x y:Val)(r:Int)(gk:Nat)(v46:Value)(wr:World):Prop:=
 ∃i:Nat,v46= .int .i64 i∧i≤x.list.length∧i≤y.list.length∧gk=x.list.length - i∧cmpR.cmpRs (x.list.drop i) (y.list.drop i) ((x.list.length:Int) - y.list.length)=r∧Below w2.heap.size w2 wr
theorem rcmp_list (n:Nat)(IH:∀(x:Val),x.parts≤n→∀(y:Val) (c d:VC) (F F':Nat→Prop) (w:World),CF F w c x→CF F' w d y→
   Calls Tryz.prog 43 #[.agg #[.int .i64 c.kind,.int .i64 c.n,.string c.s,.slice c.la c.ln c.lc],.agg #[.int .i64 d.kind,.int .i64 d.n,.string d.s,.slice d.la d.ln d.lc]] w fun e w'=>e= .returned (.int .i64 (cmpR x y))∧Below w.heap.size w w')
  (x y:Val)
  (ck cn:Int)(cs:ByteArray)(la:Option Addr)(ln lc:Nat)(dk dn:Int)(ds:ByteArray)(ma:Option Addr)(mn mc:Nat)(F F':Nat→Prop)(w:World)(C:CF F w ⟨ck,cn,cs,la,ln,lc⟩ x)(D:CF F' w ⟨dk,dn,ds,ma,mn,mc⟩ y)(r:Int)(hr:cmpR x y=r)
  (hk:ck=dk)(h1:ck=3)(hx:x.parts≤n+1)(g off g' off':Nat)
  (hel:ln=x.list.length∧ln≤maxLen∧(∀(i:Nat) (z:Val),x.list[i]? =some z→F g∧g<w.heap.size∧∃c,CF F w c z∧
    w.cell? ⟨g,off+i*4,none⟩=some (.int .i64 c.kind)∧w.cell? ⟨g,off+i*4+1,none⟩=some (.int .i64 c.n)∧w.cell? ⟨g,off+i*4+2,none⟩=some (.string c.s)∧w.cell? ⟨g,off+i*4+3,none⟩=some (.slice c.la c.ln c.lc)))(hla:la=some ⟨g,off,none⟩∨x.list=[])
  (hem:mn=y.list.length∧mn≤maxLen∧(∀(i:Nat) (z:Val),y.list[i]? =some z→F' g'∧g'<w.heap.size∧∃c,CF F' w c z∧
    w.cell? ⟨g',off'+i*4,none⟩=some (.int .i64 c.kind)∧w.cell? ⟨g',off'+i*4+1,none⟩=some (.int .i64 c.n)∧w.cell? ⟨g',off'+i*4+2,none⟩=some (.string c.s)∧w.cell? ⟨g',off'+i*4+3,none⟩=some (.slice c.la c.ln c.lc)))(hma:ma=some ⟨g',off',none⟩∨y.list=[]):
  Calls Tryz.prog 43 #[.agg #[.int .i64 ck,.int .i64 cn,.string cs,.slice la ln lc],.agg #[.int .i64 dk,.int .i64 dn,.string ds,.slice ma mn mc]] w fun e w'=>e= .returned (.int .i64 r)∧Below w.heap.size w w'
  :=by
 rw[cmpR_eq]at hr
 have h1:ck=x.kind:=C.kind
 have h2:cn=x.num:=C.n
 have h3:cs=x.txt:=C.s
 have g1:dk=y.kind:=D.kind
 have g2:dn=y.num:=D.n
 have g3:ds=y.txt:=D.s
 rw[←h1,←h2,←h3,←g1,←g2,←g3]at hr
 clear h1 h2 h3 g1 g2 g3
 have HC:=zh2 C D
 clear C D
 have hk1:(ck !=dk)=false:=by rw[hk];simp
 rw[hk1]at hr
 simp only[cond_false]at hr
 subst hk
 have HB:=zhd ((((Below.refl w.heap.size w).alloc (Nat.le_refl _) (.cells #[.int .i64 ck,.int .i64 cn,.string cs,.slice la ln lc] 39)).alloc (by simp) (.cells #[.int .i64 ck,.int .i64 dn,.string ds,.slice ma mn mc] 39)))
 clear hk1
 subst h1
 have e1:((3:Int)==1)=false:=rfl
 have e2:((3:Int)==2)=false:=rfl
 have e3:((3:Int)!=3)=false:=rfl
 rw[e1,e2,e3]at hr
 simp only[cond_false]at hr
 obtain⟨hln,hlm,hel⟩:=hel
 obtain⟨hmn,hmm,hem⟩:=hem
 have HR:=zhd hr
 have HE:=zh2 hel hem
 have HL:=zh2 hln hmn
 have HLA:=zh2 hla hma
 have HI:=zhd IH
 unfold maxLen at hlm hmm
 clear hr e1 e2 e3 hel hem hln hmn hla hma IH
 go_enter Tryz.func43,Tryz.ntmps43
 go_wp2_with fail
 obtain⟨w2,hw2⟩:∃w2,w2=(w.alloc (.cells #[.int .i64 3,.int .i64 cn,.string cs,.slice la ln lc] 39)).alloc (.cells #[.int .i64 3,.int .i64 dn,.string ds,.slice ma mn mc] 39):=⟨_,rfl⟩
 have p3:w2.cell? ⟨w.heap.size,3,none⟩=some (.slice la ln lc):=by rw[hw2,zch heap_lt2];rfl
 have p7:w2.cell? ⟨w.heap.size+1,3,none⟩=some (.slice ma mn mc):=by rw[hw2,zch heap_new2];rfl
 have sz2:w2.heap.size=w.heap.size+2:=by rw[hw2];simp
 rw[←hw2]at HB⊢
 have HP:=zh3 p3 p7 sz2
 clear hw2 p3 p7 sz2
 go_loopg [5] (x.list.length) (fun gk v5 wr=>RCRel w2 x y r gk v5 wr)
 case atStart=>exact⟨0,rfl,Nat.zero_le _,Nat.zero_le _,rfl,HR.out,Below.refl _ _⟩
 case round=>
  obtain⟨i,rfl,hi,hj,hgk,hcm,hB⟩:=hrel
  have b1:=hB.size
  have s1:w.heap.size+1<wr.heap.size:=by have:=HP.out.2.2;omega
  have s0:w.heap.size<wr.heap.size:=by omega
  have p3:wr.cell? ⟨w.heap.size,3,none⟩=some (.slice la ln lc):=by rw[hB.cell (p:=⟨w.heap.size,3,none⟩) (show w.heap.size<w2.heap.size by have:=HP.out.2.2;omega)];exact HP.out.1
  have p7:wr.cell? ⟨w.heap.size+1,3,none⟩=some (.slice ma mn mc):=by rw[hB.cell (p:=⟨w.heap.size+1,3,none⟩) (show w.heap.size+1<w2.heap.size by have:=HP.out.2.2;omega)];exact HP.out.2.1
  have BW:=HB.out.trans (hB.mono (show w.heap.size≤w2.heap.size by have:=HP.out.2.2;omega))
  by_cases hin:i<ln
  ·obtain⟨z,hz⟩:=elem_at (l:=x.list) (k:=i) (by have:=HL.out.1;omega)
   obtain⟨hFg,hg,c',hC,q0,q1,q2,q3⟩:=HE.out.1 i z hz
   have hin':(i:Int)<ln:=by omega
   have hla:la=some ⟨g,off,none⟩:=HLA.out.1.resolve_right (fun e=>by rw[e]at hz;simp at hz)
   rw[←BW.cell (p:=⟨g,_,none⟩) hg]at q0 q1 q2 q3
   have hdr:x.list.drop i=z::x.list.drop (i+1):=by
    rw[List.drop_eq_getElem_cons (zge hz).1,(zge hz).2]
   have hgl:g<wr.heap.size:=by omega
   subst hla
   by_cases hjn:i<mn
   ·obtain⟨u,hu⟩:=elem_at (l:=y.list) (k:=i) (by have:=HL.out.2;omega)
    obtain⟨hFm,hm,d',hD,m0,m1,m2,m3⟩:=HE.out.2 i u hu
    have hjn':((i:Int)==mn)=false:=by rw[beq_eq_false_iff_ne];omega
    have hjn2:(i:Int)<mn:=by omega
    have hma:ma=some ⟨g',off',none⟩:=HLA.out.2.resolve_right (fun e=>by rw[e]at hu;simp at hu)
    rw[←BW.cell (p:=⟨g',_,none⟩) hm]at m0 m1 m2 m3
    have hds:y.list.drop i=u::y.list.drop (i+1):=by
     rw[List.drop_eq_getElem_cons (zge hu).1,(zge hu).2]
    have hml:g'<wr.heap.size:=by omega
    rw[hdr,hds,cmpRs_cons]at hcm
    have CW:=zhd (fun W (hW:Below wr.heap.size wr W)=>HI.out z (by have:=Val.parts_lt (v:=x) (zmg hz);omega) u c' d' _ _ W (hC.keep (S:=fun _=>False) (zkb (BW.trans (hW.mono BW.size))) (fun _ _ f=>f)) (hD.keep (S:=fun _=>False) (zkb (BW.trans (hW.mono BW.size))) (fun _ _ f=>f)))
    generalize cmpR z u=cv at*
    have HX:=zh8 hcm hB hgk BW hj hi (zge hz).1 (zge hu).1
    subst hma
    clear hcm hB hgk BW hz hu hC hD hdr hds
    go_wp2_with fail
    refine wp_region_ext (by kernel_rfl) (by kernel_rfl) ?_
    repeat(go_big_quiet_step ((go_at_call 43;exact ext_call (CW.out _ (Subtype.property _)))))
    refine wpQuiet_nil ?_
    intro w7 hB7
    have HB7:=zhd hB7
    clear hB7 CW
    cases hz:(cv !=0)with
    |true=>
     have hcm:=HX.out.1
     rw[hz]at hcm
     simp only[cond_true]at hcm
     have HM:=zhd hcm
     clear hcm
     go_wp2_with fail
     go_ret
     exact⟨by rw[←HM.out];rfl,HX.out.2.2.2.1.trans (HB7.out.mono HX.out.2.2.2.1.size)⟩
    |false=>
     have hcm:=HX.out.1
     rw[hz]at hcm
     simp only[cond_false]at hcm
     have HM:=zhd hcm
     clear hcm
     go_wp2_with fail
     go_roundg (x.list.length - (i+1))
     case measure=>have:=HX.out.2.2.1;have:=HX.out.2.2.2.2.2.2.1;omega
     case rel=>exact⟨i+1,by simp,HX.out.2.2.2.2.2.2.1,HX.out.2.2.2.2.2.2.2,rfl,HM.out,HX.out.2.1.trans (HB7.out.mono HX.out.2.1.size)⟩
   ·obtain rfl:i=mn:=by have:=HL.out.2;omega
    have hyn:y.list.drop i=[]:=List.drop_eq_nil_of_le (by have:=HL.out.2;omega)
    rw[hyn,cmpRs_one]at hcm
    have hjn2:¬(i:Int)<i:=by omega
    have hwl:wrap64 ((ln:Int) - i)=(ln:Int) - i:=by unfold wrap64;omega
    have HX:=zh2 hcm BW
    clear hcm hB hgk BW hz hC hdr
    go_wp2_with fail
    go_ret
    exact⟨by rw[←HX.out.1,←HL.out.1,←HL.out.2];rfl,HX.out.2⟩
  ·obtain rfl:i=ln:=by have:=HL.out.1;omega
   have hxn:x.list.drop i=[]:=List.drop_eq_nil_of_le (by have:=HL.out.1;omega)
   rw[hxn,cmpRs_nil]at hcm
   have e3:¬(i:Int)<i:=by omega
   have hwl:wrap64 ((i:Int) - mn)=(i:Int) - mn:=by unfold wrap64;omega
   have HX:=zh2 hcm BW
   clear hcm hB hgk BW
   go_wp2_with fail
   go_ret
   exact⟨by rw[←HX.out.1,←HL.out.1,←HL.out.2];rfl,HX.out.2⟩
theorem rcompare_any:∀(n:Nat) (x:Val),x.parts≤n→∀(y:Val) (c d:VC) (F F':Nat→Prop) (w:World),CF F w c x→CF F' w d y→
   Calls Tryz.prog 43 #[.agg #[.int .i64 c.kind,.int .i64 c.n,.string c.s,.slice c.la c.ln c.lc],.agg #[.int .i64 d.kind,.int .i64 d.n,.string d.s,.slice d.la d.ln d.lc]] w fun e w'=>e= .returned (.int .i64 (cmpR x y))∧Below w.heap.size w w'
 |0,x,hx,_,_,_,_,_,_,_,_=>by have:=x.parts_pos;omega
 |n+1,x,hx,y,⟨ck,cn,cs,la,ln,lc⟩,⟨dk,dn,ds,ma,mn,mc⟩,F,F',w,C,D=>by
  by_cases hk:ck=dk
  ·by_cases k1:ck=1
   ·exact rcmp_int x y ck cn cs la ln lc dk dn ds ma mn mc F F' w C D _ rfl hk k1
   ·by_cases k2:ck=2
    ·exact rcmp_text x y ck cn cs la ln lc dk dn ds ma mn mc F F' w C D _ rfl hk k2
    ·by_cases k3:ck=3
     ·obtain⟨h4,h5,h6⟩:=C.l.elems
      obtain⟨g4,g5,g6⟩:=D.l.elems
      have hA:∃g off,(la=some ⟨g,off,none⟩∨x.list=[])∧(∀(i:Nat) (z:Val),x.list[i]? =some z→F g∧g<w.heap.size∧∃c,CF F w c z∧
        w.cell? ⟨g,off+i*4,none⟩=some (.int .i64 c.kind)∧w.cell? ⟨g,off+i*4+1,none⟩=some (.int .i64 c.n)∧w.cell? ⟨g,off+i*4+2,none⟩=some (.string c.s)∧w.cell? ⟨g,off+i*4+3,none⟩=some (.slice c.la c.ln c.lc)):=by
       rcases h6 with h6|⟨g,off,hla,hFg,hg,h6⟩
       ·exact⟨0,0,.inr h6,fun i y hy=>by rw[h6]at hy;simp at hy⟩
       ·exact⟨g,off,.inl hla,fun i y hy=>⟨hFg,hg,h6 i y hy⟩⟩
      have hB:∃g off,(ma=some ⟨g,off,none⟩∨y.list=[])∧(∀(i:Nat) (z:Val),y.list[i]? =some z→F' g∧g<w.heap.size∧∃c,CF F' w c z∧
        w.cell? ⟨g,off+i*4,none⟩=some (.int .i64 c.kind)∧w.cell? ⟨g,off+i*4+1,none⟩=some (.int .i64 c.n)∧w.cell? ⟨g,off+i*4+2,none⟩=some (.string c.s)∧w.cell? ⟨g,off+i*4+3,none⟩=some (.slice c.la c.ln c.lc)):=by
       rcases g6 with h6|⟨g,off,hla,hFg,hg,h6⟩
       ·exact⟨0,0,.inr h6,fun i y hy=>by rw[h6]at hy;simp at hy⟩
       ·exact⟨g,off,.inl hla,fun i y hy=>⟨hFg,hg,h6 i y hy⟩⟩
      obtain⟨g,off,a1,a2⟩:=hA
      obtain⟨g',off',b1,b2⟩:=hB
      exact rcmp_list n (fun y hy=>rcompare_any n y hy) x y ck cn cs la ln lc dk dn ds ma mn mc F F' w C D _ rfl hk k3 hx g off g' off' ⟨h4,h5,a2⟩ a1 ⟨g4,g5,b2⟩ b1
     ·exact rcmp_other x y ck cn cs la ln lc dk dn ds ma mn mc F F' w C D _ rfl hk (beq_eq_false_iff_ne.2 k1) (beq_eq_false_iff_ne.2 k2) (beq_eq_false_iff_ne.2 k3)
  ·exact rcmp_kind x y ck cn cs la ln lc dk dn ds ma mn mc F F' w C D _ rfl (by simpa using hk)
end Go.Proofs.YtakljipkaoahnaaGreatDoor
