/- Parts of the proof: what the functions and the plain laws give that later parts lean on. Conditions: none beyond those that each theorem names. -/
import Derived.Test.YtakljipkaoahnaaGreatDoorB11
import Derived.Test.YtakljipkaoahnaaGreatDoorB14
set_option maxRecDepth 100000
set_option maxHeartbeats 8000000
namespace Go.Va
open Go.Own Go.RowKit
open Go.Proofs.YtakljipkaoahnaaGreatDoor
theorem check_zero {x:Val}:checkL x=0↔(walkV x 0 (0,0)).2=0∧(bytesV x).length≤512:=by
 unfold checkL
 cases h:((walkV x 0 (0,0)).2 !=0)with
 |true=>
  simp only[cond_true]
  have h2:(walkV x 0 (0,0)).2≠0:=by simpa using h
  exact⟨fun e=>absurd e h2,fun e=>absurd e.1 h2⟩
 |false=>
  simp only[cond_false]
  have h2:(walkV x 0 (0,0)).2=0:=by simpa using h
  cases h3:decide (512<(bytesV x).length)with
  |true=>exact⟨(fun e=>by cases e),fun e=>by have:=of_decide_eq_true h3;omega⟩
  |false=>exact⟨fun _=>⟨h2,by have:=of_decide_eq_false h3;omega⟩,fun _=>rfl⟩
mutual
theorem walk_low:∀(x:Val) (d p:Nat),(walkV x d (p,0)).2=0→p≤(walkV x d (p,0)).1∧∀(d' q:Nat),d'≤d→q≤p→walkV x d' (q,0)=(q+((walkV x d (p,0)).1 - p),0)
 | .mk k n s l,d,p,h=>by
   rw[walkV]at h⊢
   have e0:((0:Int)!=0)=false:=rfl
   rw[e0]at h⊢
   simp only[cond_false]at h⊢
   cases h1:decide (256≤p)with
   |true=>rw[h1]at h;cases h
   |false=>
    have hp:=of_decide_eq_false h1
    rw[h1]at h
    simp only[cond_false]at h⊢
    have hq:∀q:Nat,q≤p→decide (256≤q)=false:=fun q hq=>decide_eq_false (by omega)
    cases h2:(k==0||k==1)with
    |true=>
     simp only[cond_true]
     refine⟨Nat.le_succ _,fun d' q _ hq'=> ?_⟩
     rw[walkV,e0,hq q hq',h2]
     show(q+1,(0:Int))=_
     congr 1
     omega
    |false=>
     rw[h2]at h
     simp only[cond_false]at h⊢
     cases h3:(k==2)with
     |true=>
      rw[h3]at h
      simp only[cond_true]at h⊢
      refine⟨Nat.le_succ _,fun d' q _ hq'=> ?_⟩
      rw[walkV,e0,hq q hq',h2,h3]
      show(q+1,_)=_
      rw[h]
      congr 1
      omega
     |false=>
      rw[h3]at h
      simp only[cond_false]at h⊢
      cases h4:(k==3)with
      |false=>rw[h4]at h;cases h
      |true=>
       rw[h4]at h
       simp only[cond_true]at h⊢
       cases h5:decide (8≤d)with
       |true=>
        rw[h5]at h
        simp only[cond_true]at h
        rw[walkL_err l (d+1) (p+1,30) rfl]at h
        cases h
       |false=>
        rw[h5]at h
        simp only[cond_false]at h⊢
        cases h6:decide (64<l.length)with
        |true=>
         rw[h6]at h
         simp only[cond_true]at h
         rw[walkL_err l (d+1) (p+1,2) rfl]at h
         cases h
        |false=>
         rw[h6]at h
         simp only[cond_false]at h⊢
         obtain⟨g1,g2⟩:=walkL_low l (d+1) (p+1) h
         refine⟨by omega,fun d' q hd' hq'=> ?_⟩
         have hd:decide (8≤d')=false:=decide_eq_false (by have:=of_decide_eq_false h5;omega)
         rw[walkV,e0,hq q hq',h2,h3,h4,hd,h6]
         show walkV.walkL l (d'+1) (q+1,0)=_
         rw[(g2 (d'+1) (q+1) (by omega) (by omega)).1]
         congr 1
         omega
theorem walkL_low:∀(l:List Val) (d p:Nat),(walkV.walkL l d (p,0)).2=0→p≤(walkV.walkL l d (p,0)).1∧∀(d' q:Nat),d'≤d→q≤p→walkV.walkL l d' (q,0)=(q+((walkV.walkL l d (p,0)).1 - p),0)∧∀x∈l,(walkV x d' (q,0)).2=0
 |[],d,p,h=>by
  rw[walkL_nil]at h⊢
  refine⟨Nat.le_refl _,fun d' q _ _=>⟨?_,fun x hx=>by cases hx⟩⟩
  rw[walkL_nil]
  show(q,(0:Int))=(q+(p - p),0)
  rw[Nat.sub_self]
  rfl
 |x::r,d,p,h=>by
  have e0:(((p,(0:Int)):Nat×Int).2 !=0)=false:=rfl
  rw[walkL_cons,e0]at h⊢
  simp only[cond_false]at h⊢
  have hx0:(walkV x d (p,0)).2=0:=by
   cases hc:((walkV x d (p,0)).2 !=0)with
   |true=>rw[walkL_err r d _ hc]at h;exact h
   |false=>simpa using hc
  obtain⟨m,hm⟩:∃m,walkV x d (p,0)=(m,0):=⟨_,Prod.ext rfl hx0⟩
  obtain⟨a1,a2⟩:=walk_low x d p hx0
  rw[hm]at h a1 a2⊢
  obtain⟨b1,b2⟩:=walkL_low r d m h
  have a1:p≤m:=a1
  refine⟨by omega,fun d' q hd hq=> ?_⟩
  have a3:walkV x d' (q,0)=(q+(m - p),0):=a2 d' q hd hq
  obtain⟨c1,_⟩:=b2 d' (q+(m - p)) hd (by omega)
  refine⟨?_,fun y hy=> ?_⟩
  ·rw[walkL_cons]
   show walkV.walkL r d' (walkV x d' (q,0))=_
   rw[a3,c1]
   congr 1
   omega
  ·rcases List.mem_cons.1 hy with rfl|hy
   ·rw[a3]
   ·exact(b2 d' q hd (by omega)).2 y hy
end
theorem check_elem {n:Int}{s:ByteArray}{l:List Val}(h:checkL (.mk 3 n s l)=0){x:Val}(hx:x∈l):checkL x=0:=by
 obtain⟨h1,h2⟩:=check_zero.1 h
 rw[walkV]at h1
 have h1:(walkV.walkL l 1 (1,bif decide (64<l.length)then 2 else 0)).2=0:=h1
 have hl:¬64<l.length:=by
  intro e
  rw[decide_eq_true e]at h1
  rw[show(bif true then(2:Int)else 0)=2 from rfl,walkL_err l 1 (1,2) rfl]at h1
  cases h1
 rw[decide_eq_false hl]at h1
 refine check_zero.2 ⟨((walkL_low l 1 1 h1).2 0 0 (by omega) (by omega)).2 x hx,?_⟩
 rw[bytesV]at h2
 have h2:(UInt8.ofNat _::(numB l.length++bytesV.bytesL l)).length≤512:=h2
 rw[List.length_cons,List.length_append]at h2
 have:=bytesL_mem hx
 omega
theorem check_nil:checkL vNil0=0:=by kernel_rfl
theorem check_int (n:Int):checkL (vInt n)=0:=by
 refine check_zero.2 ⟨rfl,?_⟩
 rw[vInt,bytesV]
 have:=numB_len (zigL n)
 show(UInt8.ofNat _::numB (zigL n)).length≤512
 rw[List.length_cons]
 omega
theorem check_text {s:ByteArray}(h:s.size≤64):checkL (vText s)=0:=by
 refine check_zero.2 ⟨?_,?_⟩
 ·rw[vText,walkV]
  show(bif decide (256<s.size)then(2:Int)else 0)=0
  rw[decide_eq_false (by omega)]
  rfl
 ·rw[vText,bytesV]
  show(UInt8.ofNat _::textB s.data.toList).length≤512
  rw[List.length_cons]
  unfold textB
  have:=numB_len s.data.toList.length
  have hl:s.data.toList.length=s.size:=by simp
  rw[List.length_append]
  omega
def Okv (x:Val):Prop:=checkL x=0∧x.wf
end Go.Va
namespace Go.Va
open Go.Own Go.RowKit
def cmpR:Val→Val→Int
 | .mk k n s l,y=>
   bif k !=y.kind then wrap64 (k - y.kind)else
   bif k==1 then(bif decide (n<y.num)then -1 else bif decide (y.num<n)then 1 else 0)else
   bif k==2 then(bif Op.bytesLess s.toList y.txt.toList then -1 else bif !(Op.bytesLess s.toList y.txt.toList||s.toList==y.txt.toList)then 1 else 0)else
   bif k !=3 then 0 else cmpRs l y.list ((l.length:Int) - y.list.length)
where cmpRs:List Val→List Val→Int→Int
 |[],_,d=>d
 |_::_,[],d=>d
 |x::r,y::s,d=>bif cmpR x y !=0 then cmpR x y else cmpRs r s d
mutual
theorem clone_wf:∀x:Val,x.wf→(cloneV x).wf
 | .mk k n s l,h=>by
   have h2:=(Val.wf_eq _).1 h
   have ih:=clone_wfL l (Val.wfL_iff.1 h2.2.2.2)
   rw[Val.wf_eq,clone_kind,clone_num,clone_txt,clone_list]
   refine⟨h2.1,?_,?_,?_⟩
   ·have:=h2.2.1
    show _≤(bif k==1 then n else 0)∧(bif k==1 then n else 0)≤_
    cases(k==1)
    ·simp
    ·exact this
   ·have:=h2.2.2.1
    show(bif k==2 then s else(⟨#[]⟩:ByteArray)).size≤_
    cases(k==2)
    ·exact Nat.zero_le _
    ·exact this
   ·show Val.wf.wfL (bif k==3 then l.map cloneV else[])
    rw[Val.wfL_iff]
    cases(k==3)
    ·intro x hx;cases hx
    ·exact ih
theorem clone_wfL:∀l:List Val,(∀x∈l,x.wf)→∀x∈l.map cloneV,x.wf
 |[],_,x,h=>by cases h
 |y::r,hw,x,h=>by
  have h1:=clone_wf y (hw y List.mem_cons_self)
  have h2:=clone_wfL r (fun z hz=>hw z (List.mem_cons_of_mem _ hz))
  rw[List.map_cons]at h
  rcases List.mem_cons.1 h with rfl|h
  ·exact h1
  ·exact h2 x h
end
end Go.Va
namespace Go.Proofs.YtakljipkaoahnaaGreatDoor
open Go.RowKit Go.Own Go.Own.MapTy Go.Va Go.Sort
open Go.Own.Cells (sz enc)
def insB (c:In):List UInt8:=UInt8.ofNat (c.op%256).toNat::(bif (ofL c.op).1.operand==0 then[]else numB c.a.toNat)
def imgB (p:Img):List UInt8:=
 numB p.places.toNat++numB p.consts.length++p.consts.flatMap bytesV++numB p.names.length++p.names.flatMap (fun s=>Go.Va.textB s.data.toList)++numB p.code.length++p.code.flatMap insB
structure Sofar (p:Img)(S:ByteArray)(rest:List UInt8):Prop where
 e:S.data.toList++rest=imgB p
 le:S.size≤1000000
end Go.Proofs.YtakljipkaoahnaaGreatDoor
namespace Go.Va
open Go.Own Go.RowKit
open Go.Proofs.YtakljipkaoahnaaGreatDoor
def cmHas (k:Int):Option (Bool×Bool×Bool×Bool):=
 if k=1 then some (true,true,false,false)else if k=2 then some (true,false,false,false)else if k=3 then some (true,true,true,true)else if k=4∨k=6 then some (false,false,false,true)else if k=5 then some (false,false,true,false)else none
def cmCheck (c:Cm):Int:=
 match cmHas c.kind with
 |none=>9
 |some (fa,fb,fn,fv)=>
  if c.time<0∨4611686018427387903<c.time∨c.a<0∨c.b<0∨(fa=false∧c.a≠0)∨(fb=false∧c.b≠0)then 1 else
  if 64<c.name.size then 2 else
  if(fn=false∧c.name.size≠0)∨(fv=false∧c.v.kind≠0)then 8 else checkL c.v
theorem wf_nil:vNil0.wf:=by
 rw[vNil0,Val.wf,Val.wf.wfL]
 exact⟨⟨by decide,by decide⟩,⟨by decide,by decide⟩,Nat.zero_le _,trivial⟩
theorem ok_nil:Okv vNil0:=⟨check_nil,wf_nil⟩
theorem ok_int {n:Int}(h: -9223372036854775808≤n∧n≤9223372036854775807):Okv (vInt n):=by
 refine⟨check_int n,?_⟩
 rw[vInt,Val.wf,Val.wf.wfL]
 exact⟨⟨by decide,by decide⟩,h,Nat.zero_le _,trivial⟩
theorem ok_bool (b:Bool):Okv (vBool b):=ok_int (by cases b<;>decide)
theorem ok_text {s:ByteArray}(h:s.size≤64):Okv (vText s):=by
 refine⟨check_text h,?_⟩
 rw[vText,Val.wf,Val.wf.wfL]
 exact⟨⟨by decide,by decide⟩,⟨by decide,by decide⟩,by omega,trivial⟩
theorem ok_clone {x:Val}(h:Okv x):Okv (cloneV x):=⟨by rw[check_clone];exact h.1,clone_wf x h.2⟩
theorem wf_list {l:List Val}(h:∀x∈l,x.wf):(Val.mk 3 0 ⟨#[]⟩ l).wf:=by
 rw[Val.wf]
 exact⟨⟨by decide,by decide⟩,⟨by decide,by decide⟩,Nat.zero_le _,Val.wfL_iff.2 h⟩
theorem ok_elem {x y:Val}(h:Okv x)(hk:x.kind=3)(hy:y∈x.list):Okv y:=by
 cases x with
 |mk k n s l=>
  have hk:k=3:=hk
  subst hk
  exact⟨check_elem h.1 hy,Val.wfL_mem ((Val.wf_eq _).1 h.2).2.2.2 hy⟩
structure Pk (p:Img):Prop where
 consts:∀x∈p.consts,Okv x
 names:∀x∈p.names,x.size≤64
structure Vs (s:MS):Prop where
 stk:∀x∈s.stk,Okv x
 pls:∀x∈s.places,Okv x
 inp:Okv s.input
 tms:∀x∈s.timers.list,Okv x.result∧ -1≤x.how∧x.how≤1∧1≤x.id∧x.id≤s.timers.next
 acs:∀x∈s.acts.list,Okv x.result∧ -1≤x.how∧x.how≤1∧1≤x.id∧x.id≤s.acts.next
 lts:∀x∈s.letters,Okv x.v∧x.name.size≤64
 mds:∀c∈s.made,cmCheck c=0∧c.v.wf
 now:0≤s.now∧s.now≤4611686018427387903
 nt:0≤s.timers.next∧s.timers.next≤s.made.length
 na:0≤s.acts.next∧s.acts.next≤s.made.length
theorem Vs.push {s:MS}(V:Vs s){x:Val}(h:Okv x):Vs (s.push x):=⟨fun y hy=>(List.mem_append.1 hy).elim (V.stk y) (fun e=>by rw[List.mem_singleton.1 e];exact h),V.pls,V.inp,V.tms,V.acs,V.lts,V.mds,V.now,V.nt,V.na⟩
theorem mem_dropLast {α:Type}{x:α}:∀{l:List α},x∈l.dropLast→x∈l:=fun h=>List.dropLast_subset _ h
theorem Vs.pop {s:MS}(V:Vs s):Vs s.pop:=⟨fun y hy=>V.stk y (mem_dropLast hy),V.pls,V.inp,V.tms,V.acs,V.lts,V.mds,V.now,V.nt,V.na⟩
theorem Vs.nxt {s:MS}(V:Vs s):Vs s.nxt:=⟨V.stk,V.pls,V.inp,V.tms,V.acs,V.lts,V.mds,V.now,V.nt,V.na⟩
theorem Vs.jump {s:MS}(V:Vs s)(k:Nat):Vs {s with at_:=k}:=⟨V.stk,V.pls,V.inp,V.tms,V.acs,V.lts,V.mds,V.now,V.nt,V.na⟩
theorem Vs.top {s:MS}(V:Vs s):Okv s.top:=by
 unfold MS.top
 cases h:s.stk.getLast? with
 |none=>exact ok_nil
 |some x=>exact V.stk x (List.mem_of_getLast? h)
theorem Vs.openL {s:MS}(V:Vs s)(i:Nat):Vs (s.openL i):=⟨V.stk,V.pls,V.inp,V.tms,V.acs,fun y hy=>V.lts y (List.mem_of_mem_eraseIdx hy),V.mds,V.now,V.nt,V.na⟩
theorem Vs.letV {s:MS}(V:Vs s)(i:Nat):Okv (s.letV i):=by
 unfold MS.letV
 cases h:s.letters[i]? with
 |none=>exact ok_nil
 |some x=>exact(V.lts x (zmg h)).1
theorem Vs.want {s:MS}(V:Vs s){c:Cm}(h:cmCheck {c with time:=s.now,v:=cloneV c.v}=0)(hw:c.v.wf):Vs (s.want c):=
 ⟨V.stk,V.pls,V.inp,V.tms,V.acs,V.lts,fun y hy=>(List.mem_append.1 hy).elim (V.mds y) (fun e=>by rw[List.mem_singleton.1 e];exact⟨h,clone_wf _ hw⟩),V.now,
   ⟨V.nt.1,by have:=V.nt.2;show _≤(((s.made++[_]).length:Nat):Int);rw[List.length_append];show s.timers.next≤((s.made.length+1:Nat):Int);omega⟩,⟨V.na.1,by have:=V.na.2;show _≤(((s.made++[_]).length:Nat):Int);rw[List.length_append];show s.acts.next≤((s.made.length+1:Nat):Int);omega⟩⟩
theorem cm_zero {c:Cm}{fa fb fn fv:Bool}(hh:cmHas c.kind=some (fa,fb,fn,fv))(ht:0≤c.time∧c.time≤4611686018427387903)(ha:0≤c.a∧(fa=false→c.a=0))(hb:0≤c.b∧(fb=false→c.b=0))(hn:c.name.size≤64∧(fn=false→c.name.size=0))(hv:checkL c.v=0∧(fv=false→c.v.kind=0)):cmCheck c=0:=by
 unfold cmCheck
 rw[hh]
 dsimp only
 rw[if_neg,if_neg (by omega),if_neg]
 ·exact hv.1
 ·rintro(⟨h1,h2⟩|⟨h1,h2⟩)
  ·exact h2 (hn.2 h1)
  ·exact h2 (hv.2 h1)
 ·rintro(h|h|h|h|⟨h1,h2⟩|⟨h1,h2⟩)
  ·omega
  ·omega
  ·omega
  ·omega
  ·exact h2 (ha.2 h1)
  ·exact h2 (hb.2 h1)
theorem Vs.fall {s:MS}(V:Vs s){why:ByteArray}(h:why.size≤59):Vs (s.fall why):=by
 have V2:Vs {s with trap:=why}:=⟨V.stk,V.pls,V.inp,V.tms,V.acs,V.lts,V.mds,V.now,V.nt,V.na⟩
 refine V2.want (cm_zero (fa:=false) (fb:=false) (fn:=true) (fv:=false) rfl V.now ⟨Int.le_refl _,fun _=>rfl⟩ ⟨Int.le_refl _,fun _=>rfl⟩ ⟨?_,fun e=>by cases e⟩ ⟨by rw[check_clone];exact check_nil,fun _=>rfl⟩) wf_nil
 show(⟨#[116,114,97,112,32]⟩++why:ByteArray).size≤64
 rw[ByteArray.size_append]
 show 5+why.size≤64
 omega
theorem Vs.put {s:MS}(V:Vs s){x:Val}(h:checkL x=0→x.wf):Vs (s.put x):=by
 unfold MS.put
 split
 ·exact V.fall (by decide)
 ·rename_i h0
  have h0:checkL x=0:=by simpa using h0
  exact V.push ⟨h0,h h0⟩
theorem wrap_bd (n:Int): -9223372036854775808≤wrap64 n∧wrap64 n≤9223372036854775807:=by unfold wrap64;omega
theorem Vs.arith {s:MS}(V:Vs s)(op:Int)(a b:Val):Vs (s.arith op a b):=by
 unfold MS.arith
 split
 ·exact V.fall (by decide)
 ·exact V.push (ok_int (wrap_bd _))
theorem text_wf {s:ByteArray}(h:checkL (vText s)=0):(vText s).wf:=by
 have h1:=(check_zero.1 h).1
 rw[vText,walkV]at h1
 have h1:(bif decide (256<s.size)then(2:Int)else 0)=0:=h1
 have hl:s.size≤256:=by
  by_cases e:256<s.size
  ·rw[decide_eq_true e]at h1;cases h1
  ·omega
 rw[vText,Val.wf,Val.wf.wfL]
 exact⟨⟨by decide,by decide⟩,⟨by decide,by decide⟩,by omega,trivial⟩
theorem Vs.two {s:MS}(V:Vs s)(op:Int){a b:Val}(ha:Okv a)(hb:Okv b):Vs (s.two op a b):=by
 unfold MS.two
 split
 ·exact V.push (ok_bool _)
 ·split
  ·exact V.push (ok_bool _)
  ·split
   ·split
    ·exact V.fall (by decide)
    ·rename_i hk
     refine V.push (ok_clone ?_)
     split
     ·cases h:a.list[b.num.toNat]? with
      |none=>exact ok_nil
      |some x=>exact ok_elem ha (by omega) (zmg h)
     ·exact ok_nil
   ·split
    ·split
     ·exact V.put text_wf
     ·split
      ·refine V.put (fun _=>clone_wf _ (wf_list fun x hx=> ?_))
       rcases List.mem_append.1 hx with hx|hx
       ·exact Val.wfL_mem ((Val.wf_eq _).1 ha.2).2.2.2 hx
       ·exact Val.wfL_mem ((Val.wf_eq _).1 hb.2).2.2.2 hx
      ·exact V.fall (by decide)
    ·exact V.arith op a b
theorem len_bd {x:Val}(h:Okv x)(hk:x.kind=3):x.list.length≤64:=by
 cases x with
 |mk k n s l=>
  have hk:k=3:=hk
  subst hk
  have h1:=(check_zero.1 h.1).1
  rw[walkV]at h1
  have h1:(walkV.walkL l 1 (1,bif decide (64<l.length)then 2 else 0)).2=0:=h1
  show l.length≤64
  by_cases e:64<l.length
  ·rw[decide_eq_true e,show(bif true then(2:Int)else 0)=2 from rfl,walkL_err l 1 (1,2) rfl]at h1
   cases h1
  ·omega
theorem Vs.reckon {s:MS}(V:Vs s)(op:Int)(k:Nat):Vs (s.reckon op k):=by
 unfold MS.reckon
 split
 ·have V2:Vs {s with stk:=s.stk.take (s.stk.length - k)}:=⟨fun y hy=>V.stk y (List.mem_of_mem_take hy),V.pls,V.inp,V.tms,V.acs,V.lts,V.mds,V.now,V.nt,V.na⟩
  exact V2.put (fun _=>wf_list fun x hx=>(V.stk x (List.mem_of_mem_drop hx)).2)
 ·split
  ·exact V.pop.push (ok_bool _)
  ·split
   ·split
    ·rename_i hk
     have:=len_bd V.top hk
     exact V.pop.push (ok_int (by omega))
    ·split
     ·have h:=((Val.wf_eq _).1 V.top.2).2.2.1
      exact V.pop.push (ok_int (by omega))
     ·exact V.pop.fall (by decide)
   ·exact V.pop.pop.two op V.pop.top V.top
theorem Vs.begin_ {s:MS}(V:Vs s)(op:Int){name:ByteArray}(hn:name.size≤64)(hm:s.made.length<4611686018427387904):Vs (s.begin_ op name):=by
 have ht:=V.nt
 have ha:=V.na
 unfold MS.begin_
 dsimp only
 split
 ·split
  ·exact V.pop.fall (by decide)
  ·rename_i i hf
   have hk:s.top.kind=1∧findT s.top.num s.timers.list=some i:=by
    split at hf
    ·rename_i hk;exact⟨hk,hf⟩
    ·cases hf
   obtain⟨x,hx,hid⟩:=Go.Va.findT_some hk.2
   have V2:Vs {s.pop with timers:=⟨s.timers.list.eraseIdx i,s.timers.next⟩}:=⟨V.pop.stk,V.pls,V.inp,fun y hy=>V.tms y (List.mem_of_mem_eraseIdx hy),V.acs,V.lts,V.mds,V.now,V.nt,V.na⟩
   rw[hx]
   dsimp only[Option.getD]
   cases x.over with
   |true=>exact V2.push (ok_bool _)
   |false=>
    have hb:=V.tms x (zmg hx)
    refine Vs.push (V2.want (cm_zero (fa:=true) (fb:=false) (fn:=false) (fv:=false) rfl V.now ⟨?_,fun e=>by cases e⟩ ⟨Int.le_refl _,fun _=>rfl⟩ ⟨Nat.zero_le _,fun _=>rfl⟩ ⟨by rw[check_clone];exact check_nil,fun _=>rfl⟩) wf_nil) (ok_bool _)
    show 0≤s.top.num
    omega
 ·split
  ·exact V.pop.fall (by decide)
  ·rename_i hr
   split
   ·exact V.pop.fall (by decide)
   ·have hv:0≤s.top.num:=by omega
    split
    ·refine Vs.push ?_ (ok_int (by omega))
     have hc:=V.pop.top
     refine⟨V.pop.pop.stk,V.pls,V.inp,V.tms,fun y hy=> ?_,V.lts,fun c hc'=> ?_,V.now,⟨ht.1,?_⟩,⟨?_,?_⟩⟩
     ·rcases List.mem_append.1 hy with hy|hy
      ·have:=V.acs y hy
       exact⟨this.1,this.2.1,this.2.2.1,this.2.2.2.1,by show y.id≤s.acts.next+1;omega⟩
      ·rw[List.mem_singleton.1 hy]
       exact⟨ok_nil,by show(-1:Int)≤0;decide,by show(0:Int)≤1;decide,by show 1≤s.acts.next+1;omega,Int.le_refl _⟩
     ·rcases List.mem_append.1 hc' with hc'|hc'
      ·exact V.mds c hc'
      ·rw[List.mem_singleton.1 hc']
       exact⟨cm_zero (fa:=true) (fb:=true) (fn:=true) (fv:=true) rfl V.now ⟨by show 0≤s.acts.next+1;omega,fun e=>by cases e⟩ ⟨hv,fun e=>by cases e⟩ ⟨hn,fun e=>by cases e⟩ ⟨by rw[check_clone];exact hc.1,fun e=>by cases e⟩,clone_wf _ hc.2⟩
     ·show s.timers.next≤(((s.made++[_]).length:Nat):Int)
      rw[List.length_append]
      show s.timers.next≤((s.made.length+1:Nat):Int)
      omega
     ·show 0≤s.acts.next+1
      omega
     ·show s.acts.next+1≤(((s.made++[_]).length:Nat):Int)
      rw[List.length_append]
      show s.acts.next+1≤((s.made.length+1:Nat):Int)
      omega
    ·refine Vs.push ?_ (ok_int (by omega))
     refine⟨V.pop.stk,V.pls,V.inp,fun y hy=> ?_,V.acs,V.lts,fun c hc'=> ?_,V.now,⟨?_,?_⟩,⟨ha.1,?_⟩⟩
     ·rcases List.mem_append.1 hy with hy|hy
      ·have:=V.tms y hy
       exact⟨this.1,this.2.1,this.2.2.1,this.2.2.2.1,by show y.id≤s.timers.next+1;omega⟩
      ·rw[List.mem_singleton.1 hy]
       exact⟨ok_nil,by show(-1:Int)≤0;decide,by show(0:Int)≤1;decide,by show 1≤s.timers.next+1;omega,Int.le_refl _⟩
     ·rcases List.mem_append.1 hc' with hc'|hc'
      ·exact V.mds c hc'
      ·rw[List.mem_singleton.1 hc']
       exact⟨cm_zero (fa:=true) (fb:=true) (fn:=false) (fv:=false) rfl V.now ⟨by show 0≤s.timers.next+1;omega,fun e=>by cases e⟩ ⟨hv,fun e=>by cases e⟩ ⟨Nat.zero_le _,fun _=>rfl⟩ ⟨by rw[check_clone];exact check_nil,fun _=>rfl⟩,clone_wf _ wf_nil⟩
     ·show 0≤s.timers.next+1
      omega
     ·show s.timers.next+1≤(((s.made++[_]).length:Nat):Int)
      rw[List.length_append]
      show s.timers.next+1≤((s.made.length+1:Nat):Int)
      omega
     ·show s.acts.next≤(((s.made++[_]).length:Nat):Int)
      rw[List.length_append]
      show s.acts.next≤((s.made.length+1:Nat):Int)
      omega
theorem vs_ite {a b:MS}{c:Prop}[Decidable c](ha:c→Vs a)(hb:¬c→Vs b):Vs (if c then a else b):=by
 split
 ·rename_i h;exact ha h
 ·rename_i h;exact hb h
theorem Vs.wait {s s':MS}(V:Vs s){op:Int}{name:ByteArray}(h:s.wait op name=some s'):Vs s':=by
 unfold MS.wait at h
 split at h
 ·cases hf:findLt name s.letters with
  |none=>rw[hf]at h;cases h
  |some i=>rw[hf]at h;cases h;exact((V.openL i).push (V.letV i)).nxt
 ·dsimp only at h
  split at h
  ·cases h;exact V.fall (by decide)
  ·rename_i i hf
   have hf2:findT s.top.num (if op=21 then s.acts.list else s.timers.list)=some i:=by
    split at hf
    ·exact hf
    ·cases hf
   obtain⟨x,hx,hid⟩:=Go.Va.findT_some hf2
   split at h
   ·rename_i k _
    cases h
    exact(((V.pop.openL k).push (V.letV k)).push (ok_bool _)).nxt
   ·rw[hx]at h
    dsimp only[Option.getD]at h
    have hxo:Okv x.result∧ -1≤x.how∧x.how≤1:=by
     have hm:=zmg hx
     split at hm
     ·have:=V.acs x hm;exact⟨this.1,this.2.1,this.2.2.1⟩
     ·have:=V.tms x hm;exact⟨this.1,this.2.1,this.2.2.1⟩
    cases hov:x.over with
    |false=>rw[hov]at h;cases h
    |true=>
     rw[hov]at h
     simp only[Bool.not_true,cond_false,Option.some.injEq]at h
     have V1:Vs (if op=21 then{s.pop with acts:=⟨(if op=21 then s.acts.list else s.timers.list).eraseIdx i,s.acts.next⟩}else{s.pop with timers:=⟨(if op=21 then s.acts.list else s.timers.list).eraseIdx i,s.timers.next⟩}):=by
      by_cases h21:op=21
      ·rw[if_pos h21,if_pos h21]
       exact⟨V.pop.stk,V.pls,V.inp,V.tms,fun y hy=>V.acs y (List.mem_of_mem_eraseIdx hy),V.lts,V.mds,V.now,V.nt,V.na⟩
      ·rw[if_neg h21,if_neg h21]
       exact⟨V.pop.stk,V.pls,V.inp,fun y hy=>V.tms y (List.mem_of_mem_eraseIdx hy),V.acs,V.lts,V.mds,V.now,V.nt,V.na⟩
     have hnow:=V.now
     rw[←h]
     refine Vs.nxt ?_
     exact vs_ite (fun _=>V1.push (ok_int (n:=s.now) (by omega))) (fun _=>vs_ite (fun _=>(V1.push hxo.1).push (ok_int (n:=x.how) (by omega))) (fun _=>(V1.push ok_nil).push (ok_bool _)))
theorem Vs.end_ {s:MS}(V:Vs s)(op:Int){name:ByteArray}(hn:name.size≤64):Vs (s.end_ op name):=by
 unfold MS.end_
 split
 ·exact V.pop.want (cm_zero (fa:=false) (fb:=false) (fn:=false) (fv:=true) rfl V.now ⟨Int.le_refl _,fun _=>rfl⟩ ⟨Int.le_refl _,fun _=>rfl⟩ ⟨Nat.zero_le _,fun _=>rfl⟩ ⟨by rw[check_clone];exact V.top.1,fun e=>by cases e⟩) V.top.2
 ·split
  ·exact V.pop.want (cm_zero (fa:=false) (fb:=false) (fn:=false) (fv:=true) rfl V.now ⟨Int.le_refl _,fun _=>rfl⟩ ⟨Int.le_refl _,fun _=>rfl⟩ ⟨Nat.zero_le _,fun _=>rfl⟩ ⟨by rw[check_clone];exact V.top.1,fun e=>by cases e⟩) V.top.2
  ·exact V.want (cm_zero (fa:=false) (fb:=false) (fn:=true) (fv:=false) rfl V.now ⟨Int.le_refl _,fun _=>rfl⟩ ⟨Int.le_refl _,fun _=>rfl⟩ ⟨hn,fun e=>by cases e⟩ ⟨by rw[check_clone];exact check_nil,fun _=>rfl⟩) wf_nil
theorem Pk.name {p:Img}(P:Pk p)(k:Nat):(p.names[k]?.getD ⟨#[]⟩).size≤64:=by
 cases h:p.names[k]? with
 |none=>exact Nat.zero_le _
 |some x=>exact P.names x (zmg h)
theorem Vs.go {p:Img}(P:Pk p){s:MS}(V:Vs s)(op:Int)(k:Nat)(hm:s.made.length<4611686018427387904):Vs (s.go p op k):=by
 have hget:∀(l:List Val),(∀x∈l,Okv x)→Okv (l[k]?.getD vNil0):=fun l hl=>by
  cases h:l[k]? with
  |none=>exact ok_nil
  |some x=>exact hl x (zmg h)
 have hnow:=V.now
 unfold MS.go
 dsimp only
 refine vs_ite (fun _=>V.push (ok_clone (hget _ P.consts))) (fun _=>vs_ite (fun _=>V.pop) (fun _=>vs_ite (fun _=>V.push (ok_clone V.top)) (fun _=>vs_ite (fun _=>(V.pop.pop.push V.top).push V.pop.top) (fun _=>vs_ite (fun _=>V.push (ok_clone (hget _ V.pls))) (fun _=>vs_ite (fun _=> ?_) (fun _=>vs_ite (fun _=>V.push (ok_clone V.inp)) (fun _=>vs_ite (fun _=>V.push (ok_int (by omega))) (fun _=>vs_ite (fun _=>V.push (ok_bool _)) (fun _=>vs_ite (fun _=> ?_) (fun _=>vs_ite (fun _=>V.begin_ op (P.name k) hm) (fun _=>vs_ite (fun _=>V) (fun _=>V.reckon op k))))))))))))
 ·refine⟨V.pop.stk,fun y hy=> ?_,V.inp,V.tms,V.acs,V.lts,V.mds,V.now,V.nt,V.na⟩
  rcases List.mem_or_eq_of_mem_set hy with hy|rfl
  ·exact V.pls y hy
  ·exact V.top
 ·cases findLt (p.names[k]?.getD ⟨#[]⟩) s.letters with
  |none=>exact(V.push ok_nil).push (ok_bool _)
  |some i=>exact((V.openL i).push (V.letV i)).push (ok_bool _)
theorem Vs.step {p:Img}(P:Pk p){s s':MS}(V:Vs s)(hm:s.made.length<4611686018427387904)(h:stepM p s=some s'):Vs s':=by
 unfold stepM at h
 dsimp only at h
 cases hb:(ofL (p.code[s.at_]?.getD ⟨0,0⟩).op).1.blocks with
 |true=>rw[hb]at h;exact V.wait h
 |false=>
  rw[hb]at h
  simp only[cond_false]at h
  cases he:(ofL (p.code[s.at_]?.getD ⟨0,0⟩).op).1.ends with
  |true=>rw[he]at h;cases h;exact V.end_ _ (P.name _)
  |false=>
   rw[he]at h
   simp only[cond_false]at h
   cases hf:(ofL (p.code[s.at_]?.getD ⟨0,0⟩).op).1.flow with
   |true=>
    rw[hf]at h
    cases h
    cases((p.code[s.at_]?.getD ⟨0,0⟩).op==11)
    ·cases trueV s.top
     ·exact V.pop.jump _
     ·exact V.pop.nxt
    ·exact V.jump _
   |false=>
    rw[hf]at h
    cases h
    exact V.nxt.go P _ _ hm
def endC (c:Cm):Bool:=c.kind==4||c.kind==5||c.kind==6
def MdR (s s':MS):Prop:=∃l,s'.made=s.made++l∧l.length≤1∧∀c∈l,c.time=s.now∧(endC c=true→s'.over=true)
theorem MdR.same {s s':MS}(h:s'.made=s.made):MdR s s':=⟨[],by rw[h,List.append_nil],Nat.zero_le _,fun c hc=>by cases hc⟩
theorem MdR.want (s:MS)(c:Cm):MdR s (s.want c):=by
 refine⟨[{c with time:=s.now,v:=cloneV c.v}],rfl,Nat.le_refl _,fun d hd=> ?_⟩
 rw[List.mem_singleton.1 hd]
 refine⟨rfl,fun h=> ?_⟩
 show(s.over||(c.kind==4||c.kind==5||c.kind==6))=true
 have h:(c.kind==4||c.kind==5||c.kind==6)=true:=h
 rw[h,Bool.or_true]
theorem MdR.from_ {a s s':MS}(hm:a.made=s.made)(hn:a.now=s.now)(h:MdR a s'):MdR s s':=by
 obtain⟨l,h1,h2,h3⟩:=h
 exact⟨l,by rw[h1,hm],h2,fun c hc=>by rw[←hn];exact h3 c hc⟩
theorem MdR.to_ {s a s':MS}(hm:s'.made=a.made)(ho:s'.over=a.over)(h:MdR s a):MdR s s':=by
 obtain⟨l,h1,h2,h3⟩:=h
 exact⟨l,by rw[hm,h1],h2,fun c hc=>by rw[ho];exact h3 c hc⟩
theorem MdR.fall (s:MS)(why:ByteArray):MdR s (s.fall why):=MdR.from_ (a:={s with trap:=why}) rfl rfl (MdR.want _ _)
theorem MdR.put (s:MS)(v:Val):MdR s (s.put v):=by
 unfold MS.put
 split
 ·exact MdR.fall _ _
 ·exact MdR.same rfl
theorem MdR.arith (s:MS)(op:Int)(a b:Val):MdR s (s.arith op a b):=by
 unfold MS.arith
 split
 ·exact MdR.fall _ _
 ·exact MdR.same rfl
theorem md_ite {s a b:MS}{c:Prop}[Decidable c](ha:MdR s a)(hb:MdR s b):MdR s (if c then a else b):=by
 split
 ·exact ha
 ·exact hb
theorem MdR.two (s:MS)(op:Int)(a b:Val):MdR s (s.two op a b):=by
 unfold MS.two
 exact md_ite (MdR.same rfl) (md_ite (MdR.same rfl) (md_ite (md_ite (MdR.fall _ _) (MdR.same rfl)) (md_ite (md_ite (MdR.put _ _) (md_ite (MdR.put _ _) (MdR.fall _ _))) (MdR.arith _ _ _ _))))
theorem MdR.reckon (s:MS)(op:Int)(k:Nat):MdR s (s.reckon op k):=by
 unfold MS.reckon
 exact md_ite (MdR.from_ (a:={s with stk:=s.stk.take (s.stk.length - k)}) rfl rfl (MdR.put _ _)) (md_ite (MdR.same rfl) (md_ite (md_ite (MdR.same rfl) (md_ite (MdR.same rfl) (MdR.from_ (a:=s.pop) rfl rfl (MdR.fall _ _)))) (MdR.from_ (a:=s.pop.pop) rfl rfl (MdR.two _ _ _ _))))
theorem MdR.begin_ (s:MS)(op:Int)(name:ByteArray):MdR s (s.begin_ op name):=by
 unfold MS.begin_
 dsimp only
 refine md_ite ?_ (md_ite (MdR.from_ (a:=s.pop) rfl rfl (MdR.fall _ _)) (md_ite (MdR.from_ (a:=s.pop) rfl rfl (MdR.fall _ _)) (md_ite ?_ ?_)))
 ·split
  ·exact MdR.from_ (a:=s.pop) rfl rfl (MdR.fall _ _)
  ·rename_i i _
   cases(s.timers.list[i]?.getD ⟨0,false,vNil0,0⟩).over with
   |true=>exact MdR.same rfl
   |false=>
    obtain⟨x,hx⟩:∃x:MS,x={s.pop with timers:=⟨s.timers.list.eraseIdx i,s.timers.next⟩}:=⟨_,rfl⟩
    rw[←hx]
    exact MdR.to_ (a:=x.want ⟨2,0,s.top.num,0,⟨#[]⟩,vNil0⟩) rfl rfl (MdR.from_ (a:=x) (by rw[hx];rfl) (by rw[hx];rfl) (MdR.want _ _))
 ·obtain⟨x,hx⟩:∃x:MS,x={s.pop.pop with acts:=beginT s.acts}:=⟨_,rfl⟩
  rw[←hx]
  exact MdR.to_ (a:=x.want ⟨3,0,s.acts.next+1,s.top.num,name,s.pop.top⟩) rfl rfl (MdR.from_ (a:=x) (by rw[hx];rfl) (by rw[hx];rfl) (MdR.want _ _))
 ·obtain⟨x,hx⟩:∃x:MS,x={s.pop with timers:=beginT s.timers}:=⟨_,rfl⟩
  rw[←hx]
  exact MdR.to_ (a:=x.want ⟨1,0,s.timers.next+1,s.top.num,⟨#[]⟩,vNil0⟩) rfl rfl (MdR.from_ (a:=x) (by rw[hx];rfl) (by rw[hx];rfl) (MdR.want _ _))
theorem MdR.wait {s s':MS}{op:Int}{name:ByteArray}(h:s.wait op name=some s'):MdR s s':=by
 unfold MS.wait at h
 split at h
 ·cases hf:findLt name s.letters with
  |none=>rw[hf]at h;cases h
  |some i=>rw[hf]at h;cases h;exact MdR.same rfl
 ·dsimp only at h
  split at h
  ·cases h;exact MdR.fall _ _
  ·split at h
   ·cases h;exact MdR.same rfl
   ·rename_i i _ _ _
    cases hov:((if op=21 then s.acts.list else s.timers.list)[i]?.getD ⟨0,false,vNil0,0⟩).over with
    |false=>rw[hov]at h;cases h
    |true=>
     rw[hov]at h
     simp only[Bool.not_true,cond_false,Option.some.injEq]at h
     rw[←h]
     by_cases h21:op=21
     ·rw[if_pos h21]
      by_cases h18:op=18
      ·rw[if_pos h18];exact MdR.same rfl
      ·rw[if_neg h18,if_pos h21];exact MdR.same rfl
     ·rw[if_neg h21]
      by_cases h18:op=18
      ·rw[if_pos h18];exact MdR.same rfl
      ·rw[if_neg h18,if_neg h21];exact MdR.same rfl
theorem MdR.end_ (s:MS)(op:Int)(name:ByteArray):MdR s (s.end_ op name):=by
 unfold MS.end_
 exact md_ite (MdR.from_ (a:=s.pop) rfl rfl (MdR.want _ _)) (md_ite (MdR.from_ (a:=s.pop) rfl rfl (MdR.want _ _)) (MdR.want _ _))
theorem MdR.go (s:MS)(p:Img)(op:Int)(k:Nat):MdR s (s.go p op k):=by
 unfold MS.go
 dsimp only
 refine md_ite (MdR.same rfl) (md_ite (MdR.same rfl) (md_ite (MdR.same rfl) (md_ite (MdR.same rfl) (md_ite (MdR.same rfl) (md_ite (MdR.same rfl) (md_ite (MdR.same rfl) (md_ite (MdR.same rfl) (md_ite (MdR.same rfl) (md_ite ?_ (md_ite (MdR.begin_ _ _ _) (md_ite (MdR.same rfl) (MdR.reckon _ _ _))))))))))))
 cases findLt (p.names[k]?.getD ⟨#[]⟩) s.letters<;>exact MdR.same rfl
theorem MdR.step {p:Img}{s s':MS}(h:stepM p s=some s'):MdR s s':=by
 unfold stepM at h
 dsimp only at h
 cases hb:(ofL (p.code[s.at_]?.getD ⟨0,0⟩).op).1.blocks with
 |true=>rw[hb]at h;exact MdR.wait h
 |false=>
  rw[hb]at h
  simp only[cond_false]at h
  cases he:(ofL (p.code[s.at_]?.getD ⟨0,0⟩).op).1.ends with
  |true=>rw[he]at h;cases h;exact MdR.end_ _ _ _
  |false=>
   rw[he]at h
   simp only[cond_false]at h
   cases hf:(ofL (p.code[s.at_]?.getD ⟨0,0⟩).op).1.flow with
   |true=>
    rw[hf]at h
    cases h
    cases((p.code[s.at_]?.getD ⟨0,0⟩).op==11)
    ·cases trueV s.top<;>exact MdR.same rfl
    ·exact MdR.same rfl
   |false=>
    rw[hf]at h
    cases h
    exact MdR.from_ (a:=s.nxt) rfl rfl (MdR.go _ _ _ _)
structure Ml (s:MS):Prop where
 last:∀c∈s.made.dropLast,endC c=false
 all:s.over=false→∀c∈s.made,endC c=false
theorem Ml.step {p:Img}{s s':MS}(M:Ml s)(ho:s.over=false)(h:stepM p s=some s'):Ml s':=by
 obtain⟨l,h1,h2,h3⟩:=MdR.step h
 have ha:=M.all ho
 match l,h1,h2,h3 with
 |[],h1,_,_=>
  rw[List.append_nil]at h1
  exact⟨fun c hc=>by rw[h1]at hc;exact ha c (mem_dropLast hc),fun _ c hc=>by rw[h1]at hc;exact ha c hc⟩
 |[d],h1,_,h3=>
  refine⟨fun c hc=>by rw[h1,List.dropLast_concat]at hc;exact ha c hc,fun ho' c hc=> ?_⟩
  rw[h1]at hc
  rcases List.mem_append.1 hc with hc|hc
  ·exact ha c hc
  ·rw[List.mem_singleton.1 hc]
   cases he:endC d with
   |false=>rfl
   |true=>
    have:=(h3 d (List.mem_singleton.2 rfl)).2 he
    rw[ho']at this
    cases this
 |_::_::_,_,h2,_=>simp at h2
theorem run_made {p:Img}(P:Pk p):∀(f:Nat) (s:MS),Vs s→Ml s→s.made.length+f<4611686018427387904→
  Vs (runM p f s)∧Ml (runM p f s)∧∃l,(runM p f s).made=s.made++l∧l.length≤f∧∀c∈l,c.time=s.now
 |0,s,V,M,_=>⟨V,M,[],by rw[List.append_nil];rfl,Nat.le_refl _,fun c hc=>by cases hc⟩
 |f+1,s,V,M,hf=>by
  by_cases ho:s.over=true
  ·have e:runM p (f+1) s=s:=by rw[runM,ho];rfl
   rw[e]
   exact⟨V,M,[],by rw[List.append_nil],Nat.zero_le _,fun c hc=>by cases hc⟩
  ·have ho:s.over=false:=by simpa using ho
   cases hs:stepM p s with
   |none=>
    have e:runM p (f+1) s=s:=by rw[runM,ho,hs];rfl
    rw[e]
    exact⟨V,M,[],by rw[List.append_nil],Nat.zero_le _,fun c hc=>by cases hc⟩
   |some s'=>
    have e:runM p (f+1) s=runM p f {s' with steps:=s'.steps+1}:=by rw[runM,ho,hs];rfl
    rw[e]
    obtain⟨l,h1,h2,h3⟩:=MdR.step hs
    have hl:s'.made.length≤s.made.length+1:=by rw[h1,List.length_append];omega
    have V1:=V.step P (by omega) hs
    have V2:Vs {s' with steps:=s'.steps+1}:=⟨V1.stk,V1.pls,V1.inp,V1.tms,V1.acs,V1.lts,V1.mds,V1.now,V1.nt,V1.na⟩
    have M1:=M.step ho hs
    have M2:Ml {s' with steps:=s'.steps+1}:=⟨M1.last,M1.all⟩
    obtain⟨i1,i2,k,i3,i4,i5⟩:=run_made P f {s' with steps:=s'.steps+1} V2 M2 (by show s'.made.length+f<_;omega)
    have hn:=(step_frame hs).now
    refine⟨i1,i2,l++k,by rw[i3,←List.append_assoc,←h1],by rw[List.length_append];omega,fun c hc=> ?_⟩
    rcases List.mem_append.1 hc with hc|hc
    ·exact(h3 c hc).1
    ·exact(i5 c hc).trans hn
structure Nt where
 t:Int
 a:Int
 cs:List Int
def nt1 (n:Nt)(c:Cm):Nt:=if c.kind=1 then{n with t:=n.t+1}else if c.kind=3 then{n with a:=n.a+1}else if c.kind=2 then{n with cs:=c.a::n.cs}else n
def ok1 (n:Nt)(c:Cm):Prop:=if c.kind=1 then c.a=n.t+1 else if c.kind=3 then c.a=n.a+1 else if c.kind=2 then 1≤c.a∧c.a≤n.t∧c.a∉n.cs else True
def ntL:List Cm→Nt→Nt
 |[],n=>n
 |c::r,n=>ntL r (nt1 n c)
def okL:List Cm→Nt→Prop
 |[],_=>True
 |c::r,n=>ok1 n c∧okL r (nt1 n c)
def nt0:Nt:=⟨0,0,[]⟩
structure Nm (s:MS):Prop where
 ok:okL s.made nt0
 t:(ntL s.made nt0).t=s.timers.next
 a:(ntL s.made nt0).a=s.acts.next
 nodup:(s.timers.list.map (·.id)).Nodup
 ids:∀x∈s.timers.list,1≤x.id∧x.id≤s.timers.next∧x.id∉ (ntL s.made nt0).cs
theorem evCheck_ok {e:Ev}(h:evCheck e=0):(0≤e.time∧e.time≤4611686018427387903)∧1≤e.id∧e.id≤1048576∧0≤e.a∧0≤e.b∧e.name.size≤64∧e.text.size≤128∧checkL e.v=0:=by
 unfold evCheck at h
 split at h
 ·cases h
 ·split at h
  ·cases h
  ·split at h
   ·cases h
   ·split at h
    ·cases h
    ·split at h
     ·cases h
     ·split at h
      ·cases h
      ·exact⟨by omega,by omega,by omega,by omega,by omega,by omega,by omega,h⟩
theorem mem_end {id how:Int}{v:Val}{P:Th→Prop}:∀{l:List Th},(∀x∈l,P x)→(∀x∈l,P ⟨x.id,true,cloneV v,how⟩)→∀x∈endT id how v l,P x
 |[],_,_,x,hx=>by cases hx
 |y::r,h1,h2,x,hx=>by
  rw[endT]at hx
  split at hx
  ·cases hy:y.over with
   |true=>
    rw[hy]at hx
    exact h1 x hx
   |false=>
    rw[hy]at hx
    rcases List.mem_cons.1 hx with rfl|hx
    ·exact h2 y List.mem_cons_self
    ·exact h1 x (List.mem_cons_of_mem _ hx)
  ·rcases List.mem_cons.1 hx with rfl|hx
   ·exact h1 x List.mem_cons_self
   ·exact mem_end (fun z hz=>h1 z (List.mem_cons_of_mem _ hz)) (fun z hz=>h2 z (List.mem_cons_of_mem _ hz)) x hx
theorem Vs.end1 {s:MS}(V:Vs s)(id how:Int){v:Val}(hv:Okv v)(hh: -1≤how∧how≤1):Vs {s with timers:=⟨endT id how v s.timers.list,s.timers.next⟩}:=
 ⟨V.stk,V.pls,V.inp,mem_end V.tms (fun x hx=>⟨ok_clone hv,hh.1,hh.2,(V.tms x hx).2.2.2⟩),V.acs,V.lts,V.mds,V.now,V.nt,V.na⟩
theorem Vs.end2 {s:MS}(V:Vs s)(id how:Int){v:Val}(hv:Okv v)(hh: -1≤how∧how≤1):Vs {s with acts:=⟨endT id how v s.acts.list,s.acts.next⟩}:=
 ⟨V.stk,V.pls,V.inp,V.tms,mem_end V.acs (fun x hx=>⟨ok_clone hv,hh.1,hh.2,(V.acs x hx).2.2.2⟩),V.lts,V.mds,V.now,V.nt,V.na⟩
theorem Vs.hear {s:MS}(V:Vs s){e:Ev}(h:evCheck e=0)(hw:e.v.wf):Vs (hear s e):=by
 obtain⟨_,_,_,_,_,hn,_,hc⟩:=evCheck_ok h
 have ho:Okv e.v:=⟨hc,hw⟩
 unfold Go.Va.hear
 refine vs_ite (fun _=>⟨V.stk,V.pls,ok_clone ho,V.tms,V.acs,V.lts,V.mds,V.now,V.nt,V.na⟩) (fun _=>vs_ite (fun _=>V.end1 _ _ ok_nil (by decide)) (fun _=>vs_ite (fun _=>V.end2 _ _ ho (by decide)) (fun _=>vs_ite (fun _=>V.end2 _ _ (ok_text hn) (by decide)) (fun _=>vs_ite (fun _=>V.end2 _ _ ok_nil (by decide)) (fun _=>vs_ite (fun _=> ?_) (fun _=>vs_ite (fun _=>⟨V.stk,V.pls,V.inp,V.tms,V.acs,V.lts,V.mds,V.now,V.nt,V.na⟩) (fun _=>⟨V.stk,V.pls,V.inp,V.tms,V.acs,V.lts,V.mds,V.now,V.nt,V.na⟩)))))))
 refine⟨V.stk,V.pls,V.inp,V.tms,V.acs,fun y hy=> ?_,V.mds,V.now,V.nt,V.na⟩
 rcases List.mem_append.1 hy with hy|hy
 ·exact V.lts y hy
 ·rw[List.mem_singleton.1 hy]
  exact⟨ok_clone ho,hn⟩
theorem hear_made (s:MS)(e:Ev):(hear s e).made=s.made∧(hear s e).now=s.now∧((hear s e).over=false→s.over=false):=by
 unfold hear
 repeat' split
 all_goals first|exact⟨rfl,rfl,fun h=>h⟩|exact⟨rfl,rfl,fun h=>by cases h⟩
theorem apply_made {p:Img}(P:Pk p){s:MS}(V:Vs s)(M:Ml s)(e:Ev)(hw:e.v.wf){N:Nat}(hN:s.over=false→pot s≤N)(hb:s.made.length+(p.code.length+1)*(N+2)<4611686018427387904):
  Vs (applyM p s e).2∧Ml (applyM p s e).2∧∃l,(applyM p s e).2.made=s.made++l∧l.length≤(p.code.length+1)*(N+2)∧((applyM p s e).1≠0→l=[])∧∀c∈l,c.time=e.time:=by
 have hno:Vs s∧Ml s∧∃l:List Cm,s.made=s.made++l∧l.length≤(p.code.length+1)*(N+2)∧(∀k:Int,k≠0→l=[])∧∀c∈l,c.time=e.time:=⟨V,M,[],by rw[List.append_nil],Nat.zero_le _,fun _ _=>rfl,fun c hc=>by cases hc⟩
 unfold applyM
 split
 ·obtain⟨h1,h2,l,h3,h4,h5,h6⟩:=hno
  exact⟨h1,h2,l,h3,h4,h5 _,h6⟩
 ·rename_i hc
  have hc0:evCheck e=0:=by
   by_cases h:evCheck e=0
   ·exact h
   ·exact absurd (.inl h) hc
  split
  ·obtain⟨h1,h2,l,h3,h4,h5,h6⟩:=hno
   exact⟨h1,h2,l,h3,h4,h5 _,h6⟩
  ·rename_i ho
   have ho:s.over=false:=by simpa using ho
   split
   ·obtain⟨h1,h2,l,h3,h4,h5,h6⟩:=hno
    exact⟨h1,h2,l,h3,h4,h5 _,h6⟩
   ·obtain⟨s0,hs0⟩:∃s0:MS,s0={s with now:=e.time,steps:=0,events:=s.events+1}:=⟨_,rfl⟩
    rw[←hs0]
    have V0:Vs s0:=by rw[hs0];exact⟨V.stk,V.pls,V.inp,V.tms,V.acs,V.lts,V.mds,(evCheck_ok hc0).1,V.nt,V.na⟩
    have hm0:s0.made=s.made:=by rw[hs0]
    have hn0:s0.now=e.time:=by rw[hs0]
    have hp0:pot s0=pot s:=by rw[hs0];rfl
    obtain⟨g1,g2,g3⟩:=hear_made s0 e
    have V1:=V0.hear hc0 hw
    have M1:Ml (hear s0 e):=⟨fun c hc=>by rw[g1,hm0]at hc;exact M.last c hc,fun _ c hc=>by rw[g1,hm0]at hc;exact M.all ho c hc⟩
    have hq:=(hear_pot s0 e).1
    have hfu:fuel p (hear s0 e)≤(p.code.length+1)*(N+2):=Nat.mul_le_mul_left _ (by have:=hN ho;omega)
    obtain⟨k1,k2,l,k3,k4,k5⟩:=run_made P (fuel p (hear s0 e)) (hear s0 e) V1 M1 (by rw[g1,hm0];omega)
    exact⟨k1,k2,l,by show(runM p _ _).made=_;rw[k3,g1,hm0],by omega,fun h=>absurd rfl h,fun c hc=>by rw[k5 c hc,g2,hn0]⟩
theorem vs0 {p:Img}:Vs (ms0 p):=⟨fun x hx=>(by cases hx),fun x hx=>(by rw[List.eq_of_mem_replicate hx];exact ok_nil),ok_nil,fun x hx=>(by cases hx),fun x hx=>(by cases hx),fun x hx=>(by cases hx),fun x hx=>(by cases hx),⟨Int.le_refl _,by show(0:Int)≤4611686018427387903;decide⟩,⟨Int.le_refl _,Int.le_refl _⟩,⟨Int.le_refl _,Int.le_refl _⟩⟩
theorem ml0 {p:Img}:Ml (ms0 p):=⟨fun x hx=>(by cases hx),fun _ x hx=>(by cases hx)⟩
def opn (s:MS):Nat:=s.timers.list.length+s.acts.list.length
def LmR (s s':MS):Prop:=(opn s≤64→opn s'≤64)∧s'.letters.length≤s.letters.length
theorem LmR.same {s s':MS}(h1:s'.timers.list=s.timers.list)(h2:s'.acts.list=s.acts.list)(h3:s'.letters=s.letters):LmR s s':=by
 unfold LmR opn
 rw[h1,h2,h3]
 exact⟨fun h=>h,Nat.le_refl _⟩
theorem LmR.nxt {s a:MS}(h:LmR s a):LmR s a.nxt:=h
theorem LmR.same2 {a s s':MS}(h:LmR a s)(h1:s'.timers.list=s.timers.list)(h2:s'.acts.list=s.acts.list)(h3:s'.letters=s.letters):LmR a s':=by
 unfold LmR opn at h⊢
 rw[h1,h2,h3]
 exact h
theorem LmR.put (s:MS)(v:Val):LmR s (s.put v):=by
 unfold MS.put
 split<;>exact LmR.same rfl rfl rfl
theorem LmR.arith (s:MS)(op:Int)(a b:Val):LmR s (s.arith op a b):=by
 unfold MS.arith
 split<;>exact LmR.same rfl rfl rfl
theorem lm_ite {s a b:MS}{c:Prop}[Decidable c](ha:LmR s a)(hb:LmR s b):LmR s (if c then a else b):=by
 split
 ·exact ha
 ·exact hb
theorem LmR.two (s:MS)(op:Int)(a b:Val):LmR s (s.two op a b):=by
 unfold MS.two
 exact lm_ite (LmR.same rfl rfl rfl) (lm_ite (LmR.same rfl rfl rfl) (lm_ite (lm_ite (LmR.same rfl rfl rfl) (LmR.same rfl rfl rfl)) (lm_ite (lm_ite (LmR.put _ _) (lm_ite (LmR.put _ _) (LmR.same rfl rfl rfl))) (LmR.arith _ _ _ _))))
theorem LmR.reckon (s:MS)(op:Int)(k:Nat):LmR s (s.reckon op k):=by
 unfold MS.reckon
 exact lm_ite (LmR.put {s with stk:=s.stk.take (s.stk.length - k)} _) (lm_ite (LmR.same rfl rfl rfl) (lm_ite (lm_ite (LmR.same rfl rfl rfl) (lm_ite (LmR.same rfl rfl rfl) (LmR.same rfl rfl rfl))) (LmR.two s.pop.pop _ _ _)))
theorem LmR.begin_ (s:MS)(op:Int)(name:ByteArray):LmR s (s.begin_ op name):=by
 unfold MS.begin_
 dsimp only
 split
 ·split
  ·exact LmR.same rfl rfl rfl
  ·rename_i i _
   have he:=List.length_eraseIdx_le s.timers.list i
   have hq:LmR s {s.pop with timers:=⟨s.timers.list.eraseIdx i,s.timers.next⟩}:=⟨fun h=>by have h:s.timers.list.length+s.acts.list.length≤64:=h;show(s.timers.list.eraseIdx i).length+s.acts.list.length≤64;omega,Nat.le_refl _⟩
   cases(s.timers.list[i]?.getD ⟨0,false,vNil0,0⟩).over<;>exact hq
 ·split
  ·exact LmR.same rfl rfl rfl
  ·split
   ·exact LmR.same rfl rfl rfl
   ·rename_i h64
    split
    ·refine⟨fun _=> ?_,Nat.le_refl _⟩
     show s.timers.list.length+(s.acts.list++[_]).length≤64
     rw[List.length_append,List.length_singleton]
     omega
    ·refine⟨fun _=> ?_,Nat.le_refl _⟩
     show(s.timers.list++[_]).length+s.acts.list.length≤64
     rw[List.length_append,List.length_singleton]
     omega
theorem LmR.wait {s s':MS}{op:Int}{name:ByteArray}(h:s.wait op name=some s'):LmR s s':=by
 have hop:∀i,LmR s (s.openL i):=fun i=>⟨fun h=>h,List.length_eraseIdx_le _ _⟩
 unfold MS.wait at h
 split at h
 ·cases hf:findLt name s.letters with
  |none=>rw[hf]at h;cases h
  |some i=>rw[hf]at h;cases h;exact hop i
 ·dsimp only at h
  split at h
  ·cases h;exact LmR.same rfl rfl rfl
  ·split at h
   ·rename_i k _
    cases h;exact hop k
   ·rename_i i _ _ _
    cases hov:((if op=21 then s.acts.list else s.timers.list)[i]?.getD ⟨0,false,vNil0,0⟩).over with
    |false=>rw[hov]at h;cases h
    |true=>
     rw[hov]at h
     simp only[Bool.not_true,cond_false,Option.some.injEq]at h
     have hq:LmR s (if op=21 then{s.pop with acts:=⟨(if op=21 then s.acts.list else s.timers.list).eraseIdx i,s.acts.next⟩}else{s.pop with timers:=⟨(if op=21 then s.acts.list else s.timers.list).eraseIdx i,s.timers.next⟩}):=by
      have e1:=List.length_eraseIdx_le s.timers.list i
      have e2:=List.length_eraseIdx_le s.acts.list i
      split
      ·rename_i h21
       refine⟨fun h=> ?_,Nat.le_refl _⟩
       have h:s.timers.list.length+s.acts.list.length≤64:=h
       show s.timers.list.length+(s.acts.list.eraseIdx i).length≤64
       omega
      ·rename_i h21
       refine⟨fun h=> ?_,Nat.le_refl _⟩
       have h:s.timers.list.length+s.acts.list.length≤64:=h
       show(s.timers.list.eraseIdx i).length+s.acts.list.length≤64
       omega
     rw[←h]
     exact LmR.nxt (lm_ite (LmR.same2 hq rfl rfl rfl) (lm_ite (LmR.same2 hq rfl rfl rfl) (LmR.same2 hq rfl rfl rfl)))
theorem LmR.end_ (s:MS)(op:Int)(name:ByteArray):LmR s (s.end_ op name):=by
 unfold MS.end_
 exact lm_ite (LmR.same rfl rfl rfl) (lm_ite (LmR.same rfl rfl rfl) (LmR.same rfl rfl rfl))
theorem LmR.go (s:MS)(p:Img)(op:Int)(k:Nat):LmR s (s.go p op k):=by
 unfold MS.go
 dsimp only
 repeat' (first|exact LmR.begin_ _ _ _|exact LmR.reckon _ _ _|refine lm_ite ?_ ?_)
 all_goals try(cases findLt (p.names[k]?.getD ⟨#[]⟩) s.letters)
 all_goals first|exact LmR.same rfl rfl rfl|exact LmR.begin_ _ _ _|exact LmR.reckon _ _ _|exact⟨fun h=>h,List.length_eraseIdx_le _ _⟩
theorem LmR.step {p:Img}{s s':MS}(h:stepM p s=some s'):LmR s s':=by
 unfold stepM at h
 dsimp only at h
 cases hb:(ofL (p.code[s.at_]?.getD ⟨0,0⟩).op).1.blocks with
 |true=>rw[hb]at h;exact LmR.wait h
 |false=>
  rw[hb]at h
  simp only[cond_false]at h
  cases he:(ofL (p.code[s.at_]?.getD ⟨0,0⟩).op).1.ends with
  |true=>rw[he]at h;cases h;exact LmR.end_ _ _ _
  |false=>
   rw[he]at h
   simp only[cond_false]at h
   cases hf:(ofL (p.code[s.at_]?.getD ⟨0,0⟩).op).1.flow with
   |true=>
    rw[hf]at h
    cases h
    cases((p.code[s.at_]?.getD ⟨0,0⟩).op==11)
    ·cases trueV s.top<;>exact LmR.same rfl rfl rfl
    ·exact LmR.same rfl rfl rfl
   |false=>
    rw[hf]at h
    cases h
    exact LmR.go s.nxt _ _ _
theorem ok_sz {x:Val}(h:Okv x):szV x≤20000:=by
 have h1:=check_len h.1
 have h2:=szV_bytes x
 omega
theorem ok_txt {x:Val}(h:Okv x)(hk:x.kind=2):x.txt.size≤256:=by
 cases x with
 |mk k n s l=>
  have hk:k=2:=hk
  subst hk
  have h1:=(check_zero.1 h.1).1
  rw[walkV]at h1
  have h1:(bif decide (256<s.size)then(2:Int)else 0)=0:=h1
  show s.size≤256
  by_cases e:256<s.size
  ·rw[decide_eq_true e]at h1;cases h1
  ·omega
theorem szL_append:∀l k:List Val,szV.szL (l++k)=szV.szL l+szV.szL k
 |[],k=>by rw[List.nil_append,szV.szL];omega
 |x::l,k=>by rw[List.cons_append,szV.szL,szV.szL,szL_append l k];omega
theorem ok_szL {x:Val}(h:Okv x)(hk:x.kind=3):szV.szL x.list≤20000:=by
 have h1:=ok_sz h
 rw[szV_eq,show(x.kind==2)=false by rw[hk];rfl,show(x.kind==3)=true by rw[hk];rfl]at h1
 simp only[cond_true,cond_false]at h1
 omega
structure Rk (p:Img)(s:MS):Prop where
 vs:Vs s
 opn:opn s≤64
 pls:(s.places.length:Int)=p.places
theorem Rk.steps {p:Img}{s:MS}(R:Rk p s)(k:Nat):Rk p {s with steps:=k}:=⟨⟨R.vs.stk,R.vs.pls,R.vs.inp,R.vs.tms,R.vs.acs,R.vs.lts,R.vs.mds,R.vs.now,R.vs.nt,R.vs.na⟩,R.opn,R.pls⟩
theorem Rk.step {p:Img}(P:Pk p){s s':MS}(R:Rk p s)(hm:s.made.length<4611686018427387904)(h:stepM p s=some s'):Rk p s':=⟨R.vs.step P hm h,(LmR.step h).1 R.opn,by rw[(step_frame h).places];exact R.pls⟩
theorem apply_cases (p:Img)(s:MS)(e:Ev):((applyM p s e).1≠0∧(applyM p s e).2=s)∨(evCheck e=0∧evOut e.kind=true∧s.over=false∧¬s.begun=(e.kind==1)∧applyM p s e=(0,runF p (hear {s with now:=e.time,steps:=0,events:=s.events+1} e))):=by
 unfold applyM
 by_cases h1:evCheck e≠0∨evOut e.kind=false
 ·rw[if_pos h1];exact .inl ⟨(show(9:Int)≠0 from by decide),rfl⟩
 ·rw[if_neg h1]
  by_cases h2:s.over=true
  ·rw[if_pos h2];exact .inl ⟨(show(181:Int)≠0 from by decide),rfl⟩
  ·rw[if_neg h2]
   by_cases h3:s.begun=(e.kind==1)
   ·rw[if_pos h3];exact .inl ⟨(show(7:Int)≠0 from by decide),rfl⟩
   ·rw[if_neg h3]
    refine .inr ⟨?_,?_,by simpa using h2,h3,rfl⟩
    ·by_cases h:evCheck e=0
     ·exact h
     ·exact absurd (.inl h) h1
    ·cases h:evOut e.kind with
     |true=>rfl
     |false=>exact absurd (.inr h) h1
theorem endT_len (id how:Int)(v:Val):∀l:List Th,(endT id how v l).length=l.length
 |[]=>rfl
 |x::r=>by
  rw[endT]
  split
  ·cases x.over<;>rfl
  ·rw[List.length_cons,List.length_cons,endT_len id how v r]
theorem hear_opn (s:MS)(e:Ev):opn (hear s e)=opn s∧(hear s e).places=s.places:=by
 unfold hear opn
 repeat' split
 all_goals first|exact⟨rfl,rfl⟩|exact⟨by show(endT _ _ _ s.timers.list).length+s.acts.list.length=_;rw[endT_len],rfl⟩|exact⟨by show s.timers.list.length+(endT _ _ _ s.acts.list).length=_;rw[endT_len],rfl⟩
theorem run_opn {p:Img}:∀(f:Nat) (s:MS),opn s≤64→opn (runM p f s)≤64∧(runM p f s).places.length=s.places.length
 |0,_,h=>⟨h,rfl⟩
 |f+1,s,h=>by
  rw[runM]
  cases s.over with
  |true=>exact⟨h,rfl⟩
  |false=>
   simp only[cond_false]
   cases hs:stepM p s with
   |none=>exact⟨h,rfl⟩
   |some s'=>
    obtain⟨i1,i2⟩:=run_opn f {s' with steps:=s'.steps+1} ((LmR.step hs).1 h)
    exact⟨i1,i2.trans (step_frame hs).places⟩
structure St (p:Img)(fa:Fa)(s:MS):Prop where
 good:Good p fa s
 rk:Rk p s
 ml:Ml s
 bd:s.made.length≤20000*s.events
theorem St.zero {p:Img}{fa:Fa}(K:Known p fa)(hp:0≤p.places):St p fa (ms0 p):=
 ⟨good0 K,⟨vs0,Nat.zero_le _,by show((List.replicate p.places.toNat vNil0).length:Int)=p.places;rw[List.length_replicate];omega⟩,ml0,Nat.zero_le _⟩
theorem st_room {p:Img}{fa:Fa}(K:Known p fa){s:MS}(S:St p fa s)(he:s.events≤30):s.made.length+(p.code.length+1)*(s.events+2)≤700000:=by
 have h1:=(imgL_ok K.img).2.1
 have h2:=S.bd
 have h3:(p.code.length+1)*(s.events+2)≤513*32:=Nat.mul_le_mul (by omega) (by omega)
 omega
theorem St.apply {p:Img}{fa:Fa}(K:Known p fa)(P:Pk p)(hsp:fa.span≤p.code.length+1){s:MS}(S:St p fa s)(e:Ev)(hw:e.v.wf)(he:s.events≤30):St p fa (applyM p s e).2∧(applyM p s e).2.events≤s.events+1:=by
 have hr:=st_room K S he
 obtain⟨h1,h2,l,h3,h4,h5,h6⟩:=apply_made P S.rk.vs S.ml e hw (N:=s.events) S.good.pot (by omega)
 have hg:=apply_good K hsp S.good e
 rcases apply_cases p s e with⟨_,hs⟩|⟨_,_,ho,_,hs⟩
 ·rw[hs]
  exact⟨S,Nat.le_succ _⟩
 ·obtain⟨s1,hs1⟩:∃s1,hear {s with now:=e.time,steps:=0,events:=s.events+1} e=s1:=⟨_,rfl⟩
  have o1:=hear_opn {s with now:=e.time,steps:=0,events:=s.events+1} e
  have q1:=hear_pot {s with now:=e.time,steps:=0,events:=s.events+1} e
  rw[hs1]at hs o1 q1
  have e2:(applyM p s e).2=runF p s1:=by rw[hs]
  have hk:=(run_keep p (fuel p s1) s1).1
  have hev:(applyM p s e).2.events=s.events+1:=by rw[e2];exact hk.trans q1.2.1
  refine⟨⟨hg,⟨h1,?_,?_⟩,h2,?_⟩,Nat.le_of_eq hev⟩
  ·rw[e2]
   exact(run_opn (fuel p s1) s1 (by rw[o1.1];exact S.rk.opn)).1
  ·rw[e2]
   have hp:=(run_opn (p:=p) (fuel p s1) s1 (by rw[o1.1];exact S.rk.opn)).2
   show((runM p (fuel p s1) s1).places.length:Int)=p.places
   rw[hp,o1.2]
   exact S.rk.pls
  ·rw[h3,hev,List.length_append]
   have h7:=S.bd
   have h8:(p.code.length+1)*(s.events+2)≤513*32:=Nat.mul_le_mul (by have:=(imgL_ok K.img).2.1;omega) (by omega)
   omega
end Go.Va
namespace Go.Proofs.YtakljipkaoahnaaGreatDoor
open Go.RowKit Go.Own Go.Own.MapTy Go.Va Go.Sort
open Go.Own.Cells (sz enc)
theorem made_vals {n:Nat}(h:n≤16):(madeCells #[.int .i64 0,.int .i64 0,.string .empty,.slice none 0 0] (n*4)).toList=(List.replicate n (⟨0,0,.empty,none,0,0⟩:VC)).flatMap enc:=by
 have e:∀k,(madeCells #[.int .i64 0,.int .i64 0,.string .empty,.slice none 0 0] k).toList=(List.range k).map (fun j=>(#[.int .i64 0,.int .i64 0,.string .empty,.slice none 0 0]:Array Value)[j%4]!):=fun k=>by simp[madeCells]
 rw[e]
 have hc:n=0∨n=1∨n=2∨n=3∨n=4∨n=5∨n=6∨n=7∨n=8∨n=9∨n=10∨n=11∨n=12∨n=13∨n=14∨n=15∨n=16:=by omega
 rcases hc with rfl|rfl|rfl|rfl|rfl|rfl|rfl|rfl|rfl|rfl|rfl|rfl|rfl|rfl|rfl|rfl|rfl<;>rfl
theorem infoVal:(Tryz.prog.info? 39).map (fun i=>(i.zero,i.size,i.bytes))=some (some (.agg #[.int .i64 0,.int .i64 0,.string .empty,.slice none 0 0]),4,56):=by kernel_rfl
def NewOk (W:World)(p:Img)(b:Nat)(v:MV)(w':World):Prop:=MX TT (fun j=>W.heap.size≤j) w' b v (cloneI p) (ms0 (cloneI p))∧(∀j,MO v b j→W.heap.size≤j)∧Below W.heap.size W w'
def NewPost (W:World)(p:Img)(er:Int)(e:Ending)(w':World):Prop:=
 (er≠0∧e= .returned (.tuple #[.pointer none,.int .i64 er])∧Hid (Below W.heap.size W w'))∨(er=0∧∃(b:Nat) (v:MV),e= .returned (.tuple #[.pointer (some ⟨b,0,none⟩),.int .i64 0])∧Hid (NewOk W p b v w'))
theorem new_fin {W w2 w3 w4:World}{p:Img}{i3:IC}{n:Nat}(hW:W.heap.size≤w2.heap.size)(B23:Below w2.heap.size w2 w3)(BW:Below W.heap.size W w3)(H3:IAt (fun g=>w2.heap.size≤g) w3 i3 (cloneI p))(B4:Below w3.heap.size w3 w4)
  (hm4:w4.heap[w3.heap.size]? =some (.cells (mCells ⟨.slice none 0 0,i3,.slice none 0 0,⟨0,0,⟨#[]⟩,none,0,0⟩,.slice none 0 0,.slice none 0 0,.slice none 0 0,.slice none 0 0⟩ (ms0 (cloneI p))).toArray 124 (0,0)))(hs4:w4.heap.size=w3.heap.size+1)(hn:p.places=n)(hn16:n≤16):
  NewOk W p w3.heap.size ⟨.slice none 0 0,i3,.slice (some ⟨w4.heap.size,0,none⟩) n n,⟨0,0,⟨#[]⟩,none,0,0⟩,.slice none 0 0,.slice none 0 0,.slice none 0 0,.slice none 0 0⟩
   ((w4.setCell ⟨w3.heap.size,5,none⟩ (.slice (some ⟨w4.heap.size,0,none⟩) n n)).alloc (.cells (madeCells #[.int .i64 0,.int .i64 0,.string .empty,.slice none 0 0] (n*4)) 39)):=by
 obtain⟨w5,hw5⟩:∃w5,w5=w4.setCell ⟨w3.heap.size,5,none⟩ (.slice (some ⟨w4.heap.size,0,none⟩) n n):=⟨_,rfl⟩
 have hs5:w5.heap.size=w4.heap.size:=by rw[hw5];simp[World.setCell]
 have h5:w5.heap[w3.heap.size]? =some (.cells (mCells ⟨.slice none 0 0,i3,.slice (some ⟨w4.heap.size,0,none⟩) n n,⟨0,0,⟨#[]⟩,none,0,0⟩,.slice none 0 0,.slice none 0 0,.slice none 0 0,.slice none 0 0⟩ (ms0 (cloneI p))).toArray 124 (0,0)):=by
  rw[hw5]
  simp only[World.setCell,Array.getElem?_modify,hm4]
  rfl
 have B35:Below w3.heap.size w3 w5:=by rw[hw5];exact B4.trans ⟨rfl,rfl,rfl,by simp[World.setCell],fun k hk=>Below.heap_setCell _ _ _ _ (Nat.ne_of_lt hk)⟩
 rw[←hw5]
 obtain⟨w6,hw6⟩:∃w6,w6=w5.alloc (.cells (madeCells #[.int .i64 0,.int .i64 0,.string .empty,.slice none 0 0] (n*4)) 39):=⟨_,rfl⟩
 have h6:w6.heap[w4.heap.size]? =some (.cells (madeCells #[.int .i64 0,.int .i64 0,.string .empty,.slice none 0 0] (n*4)) 39 (0,0)):=by rw[hw6,←hs5];exact heap_alloc_new _ _
 have B56:=zba hw6
 rw[←hw6]
 have h65:=(B56.block w3.heap.size (by omega)).trans h5
 have B36:Below w3.heap.size w3 w6:=B35.trans (B56.mono (by omega))
 have hmo:∀j,MO ⟨.slice none 0 0,i3,.slice (some ⟨w4.heap.size,0,none⟩) n n,⟨0,0,⟨#[]⟩,none,0,0⟩,.slice none 0 0,.slice none 0 0,.slice none 0 0,.slice none 0 0⟩ w3.heap.size j→j=w3.heap.size∨j=w4.heap.size:=by
  rintro j ⟨i,hi⟩
  match i,hi with
  |0,hi=>cases hi;exact .inl rfl
  |1,hi=>cases hi
  |2,hi=>cases hi;exact .inr rfl
  |3,hi=>cases hi
  |4,hi=>cases hi
  |5,hi=>cases hi
  |6,hi=>cases hi
  |n+7,hi=>cases hi
 have hz:=B23.size
 refine⟨⟨h65,XRow.nil _ _ _,?_,XRow.nil _ _ _,XRow.nil _ _ _,XRow.nil _ _ _,XRow.nil _ _ _,?_,cf_nil0 _ _,?_⟩,fun j hj=> ?_,?_⟩
 ·refine XRow.of (cs:=List.replicate n (⟨0,0,.empty,none,0,0⟩:VC)) (RowAt.made h6 (made_vals hn16) (by simp) (Nat.le_trans hn16 (by decide))) ⟨by simp[ms0,cloneI,hn],fun i c x hc hx=> ?_⟩
  have hc':=List.eq_of_mem_replicate (zmg hc)
  have hx':=List.eq_of_mem_replicate (zmg hx)
  subst hc' hx'
  exact cf_nil0 _ _
 ·have H3':=H3.mono (G:=fun g=>w2.heap.size≤g∧g<w3.heap.size) (fun g h1 h2=>⟨h1,h2⟩)
  have H6:=H3'.below B36
  exact H6.mono (fun g hg _=>⟨fun e=>by rcases hmo g e with rfl|rfl<;>omega,show W.heap.size≤g by omega⟩)
 ·rintro i j g hi hj
  match i,hi with
  |0,hi=>
   cases hi
   match j,hj with
   |0,hj=>rfl
   |2,hj=>have h:w4.heap.size=w3.heap.size:=Option.some.inj hj;omega
   |1,hj=>cases hj
   |3,hj=>cases hj
   |4,hj=>cases hj
   |5,hj=>cases hj
   |6,hj=>cases hj
   |n+7,hj=>cases hj
  |2,hi=>
   cases hi
   match j,hj with
   |0,hj=>have h:w3.heap.size=w4.heap.size:=Option.some.inj hj;omega
   |2,hj=>rfl
   |1,hj=>cases hj
   |3,hj=>cases hj
   |4,hj=>cases hj
   |5,hj=>cases hj
   |6,hj=>cases hj
   |n+7,hj=>cases hj
  |1,hi=>cases hi
  |3,hi=>cases hi
  |4,hi=>cases hi
  |5,hi=>cases hi
  |6,hi=>cases hi
  |n+7,hi=>cases hi
 ·rcases hmo j hj with rfl|rfl<;>have:=BW.size<;>omega
 ·exact BW.trans (B36.mono BW.size)
theorem new_any (F:Nat→Prop)(W:World)(i:IC)(p:Img)(H:IAt F W i p)(hw:∀x∈p.consts,x.wf)(r:Fa×Int×Int)(hr:checkG p=r):
  Calls Tryz.prog 19 #[.agg #[.slice i.ca i.cn i.cc,.slice i.ka i.kn i.kc,.slice i.na i.nn i.nc,.int .i64 i.pl]] W (NewPost W p r.2.2):=by
 obtain⟨w0,hw0⟩:∃w0,w0=W.alloc (.cells #[.slice i.ca i.cn i.cc,.slice i.ka i.kn i.kc,.slice i.na i.nn i.nc,.int .i64 i.pl] 27):=⟨_,rfl⟩
 have B0:=zba hw0
 have hB:=zha hw0
 have H0:=H.keep (S:=fun _=>False) (zkb B0) (fun _ _ f=>f)
 have CK:=zhd (vcheck_any F i p w0 H0 hw r hr)
 have c0:=zca hB 0 rfl
 have c1:=zca hB 1 rfl
 have c2:=zca hB 2 rfl
 have c3:=zca hB 3 rfl
 have l0:=zlt hB
 have HX:=zh5 B0 hB H0 hw hr
 clear B0 hB H0 H hw hr
 go_enter Tryz.func19,Tryz.ntmps19
 go_wp2_with fail
 rw[←hw0]
 clear hw0
 refine CK.out.mono ?_
 rintro e w1 ⟨hv,rfl,H1⟩
 obtain⟨fa,at_,er⟩:=r
 dsimp only at H1⊢
 obtain⟨xa,xc,rfl⟩:=H1.out.1.slice
 go_upto_region 2 with(fail)
 refine wp_named ?_
 intro w2 hw2
 have B2:Below w1.heap.size w1 w2:=by rw[hw2];exact(zal).alloc (by simp) _
 have g2:w2.heap[w1.heap.size+1]? =some (.cells #[.int .i64 at_,.int .i64 er] 53 (0,0)):=by rw[hw2];exact heap_new2
 have e1:=zca g2 1 rfl
 have el:=zlt g2
 have B02:Below w0.heap.size w0 w2:=H1.out.2.2.trans (B2.mono H1.out.2.2.size)
 have hb2:=(B02.block W.heap.size l0).trans HX.out.2.1
 have BW2:=HX.out.1.trans (B02.mono HX.out.1.size)
 have H2:=zh3 B02 hb2 BW2
 clear hw2 B2 g2 B02 c0 c1 c2 c3 l0 CK
 cases hez:(er !=0)with
 |true=>
  have hne:er≠0:=by simpa using hez
  have HN:=zhd hne
  clear hb2 BW2 hne
  go_wp2_with fail
  go_region
  all_goals
   go_wp2_with fail
   exact bodyPost_ret (v:=.tuple #[.pointer none,.int .i64 er]) (by simp only[results,Tryz.results19];go_simp) rfl (.inl ⟨HN.out,rfl,zhd H2.out.2.2.drew⟩)
 |false=>
  obtain rfl:er=0:=by simpa using hez
  clear hez
  have K:=(checkG_law HX.out.2.2.2.2).2 rfl
  have hok:=imgL_ok K.2.img
  have hsz:∀x∈p.consts,szV x≤1073741824:=fun x hx=>by have:=const_sz K.2.img x hx;omega
  have CL:=zhd (imgclone_any F w2 i p (HX.out.2.2.1.keep (S:=fun _=>False) (zkb H2.out.1) (fun _ _ f=>f)) hsz ⟨by omega,by omega,by omega⟩)
  have c0:=zca hb2 0 rfl
  have c1:=zca hb2 1 rfl
  have c2:=zca hb2 2 rfl
  have c3:=zca hb2 3 rfl
  have l2:=zlt hb2
  have hpl:i.pl=p.places:=HX.out.2.2.1.pl
  obtain⟨n,hn⟩:∃n:Nat,p.places=n:=⟨p.places.toNat,by omega⟩
  have hn16:n≤16:=by omega
  have HP:=zh4 hpl hn hn16 K.2
  clear hb2 BW2 hok hsz K hpl hn hn16
  go_wp2_with fail
  refine CL.out.mono ?_
  rintro e w3 ⟨i3,rfl,H3⟩
  have hb3:=(H3.out.2.block W.heap.size l2).trans H2.out.2.1
  have d3:w3.cell? ⟨W.heap.size,3,none⟩=some (.int .i64 (n:Int)):=by rw[zch hb3,←HP.out.2.1,←HP.out.1];rfl
  have l3:=zlt hb3
  have HB3:=zhd hb3
  clear hb3 c0 c1 c2 c3 l2
  go_upto_region 5 with(fail)
  refine wp_named ?_
  intro w4 hw4
  have hm4:w4.heap[w3.heap.size]? =some (.cells (mCells ⟨.slice none 0 0,i3,.slice none 0 0,⟨0,0,⟨#[]⟩,none,0,0⟩,.slice none 0 0,.slice none 0 0,.slice none 0 0,.slice none 0 0⟩ (ms0 (cloneI p))).toArray 124 (0,0)):=by
   rw[hw4]
   exact heap_alloc_new _ _
  have B4:=zba hw4
  have hs4:w4.heap.size=w3.heap.size+1:=by rw[hw4];simp
  have hb4:=(B4.block W.heap.size l3).trans HB3.out
  have d4:w4.cell? ⟨W.heap.size,3,none⟩=some (.int .i64 (n:Int)):=by rw[zch hb4,←HP.out.2.1,←HP.out.1];rfl
  have l4:=zlt hb4
  have m5:=zca hm4 5 rfl
  have mf:∀o,w4.frozen? ⟨w3.heap.size,o,none⟩=false:=fun o=>zfr hm4 o
  have ml:=zlt hm4
  have H4:=zh3 hm4 B4 hs4
  clear hw4 hm4 B4 hs4 hb4 d3 l3
  obtain⟨ti,hti,tz,ts,tb⟩:∃ti,Tryz.prog.info? 39=some ti∧ti.zero=some (.agg #[.int .i64 0,.int .i64 0,.string .empty,.slice none 0 0])∧ti.size=4∧ti.bytes=56:=by
   have h:=infoVal
   cases hq:Tryz.prog.info? 39 with
   |none=>rw[hq]at h;cases h
   |some ti=>
    rw[hq]at h
    simp only[Option.map_some,Option.some.injEq,Prod.mk.injEq]at h
    exact⟨ti,rfl,h.1,h.2.1,h.2.2⟩
  have hn16:=HP.out.2.2.1
  have hmk:∀W:World,(Instr.makeSlice 24 (.int .i64 (n:Int)) (.int .i64 (n:Int))).run Tryz.prog W= .ok (.slice (some ⟨W.heap.size,0,none⟩) n n) (W.alloc (.cells (madeCells #[.int .i64 0,.int .i64 0,.string .empty,.slice none 0 0] (n*4)) 39)):=fun W=>by
   have:=run_make (P:=Tryz.prog) W 24 39 ti (.agg #[.int .i64 0,.int .i64 0,.string .empty,.slice none 0 0]) Tryz.underlying24 hti tz .i64 .i64 n n (by omega) (by omega) (by rw[tb];omega) (by omega)
   rw[ts]at this
   simpa[Value.cells]using this
  clear hti tz ts tb hn16
  go_wp2_with fail
  exact bodyPost_ret (v:=.tuple #[.pointer (some ⟨w3.heap.size,0,none⟩),.int .i64 0]) (by simp only[results,Tryz.results19];go_simp) rfl (.inr ⟨rfl,w3.heap.size,_,rfl,zhd (new_fin (H2.out.2.2.size) H3.out.2 (H2.out.2.2.trans (H3.out.2.mono H2.out.2.2.size)) H3.out.1 H4.out.2.1 H4.out.1 H4.out.2.2 HP.out.2.1 HP.out.2.2.1)⟩)
end Go.Proofs.YtakljipkaoahnaaGreatDoor
