/- Parts of the proof: what the functions and the plain laws give that later parts lean on. Conditions: none beyond those that each theorem names. -/
import Derived.Test.YtpagmlndgblhhaaGreatDoorR11
set_option maxRecDepth 100000
set_option maxHeartbeats 8000000
namespace Go.Va
open Go.Own Go.RowKit
open Go.Proofs.YtpagmlndgblhhaaGreatDoor
def yka (k:Int):Option (Bool×Bool×Bool×Bool):=
 if k=1 then some (true,true,false,false)else if k=2 then some (true,false,false,false)else if k=3 then some (true,true,true,true)else if k=4∨k=6 then some (false,false,false,true)else if k=5 then some (false,false,true,false)else none
def yaT (c:Cm):Int:=
 match yka c.kind with
 |none=>9
 |some (fa,fb,fn,fv)=>
  if c.time<0∨4611686018427387903<c.time∨c.a<0∨c.b<0∨(fa=false∧c.a≠0)∨(fb=false∧c.b≠0)then 1 else
  if 64<c.name.size then 2 else
  if(fn=false∧c.name.size≠0)∨(fv=false∧c.v.kind≠0)then 8 else checkL c.v
theorem ydt:yai.wf:=by
 rw[yai,Val.wf,Val.wf.wfL];exact⟨⟨by decide,by decide⟩,⟨by decide,by decide⟩,znq _,trivial⟩
theorem ybN:Okv yai:=⟨ycb,ydt⟩
theorem ycF {n:Int}(h: -9223372036854775808≤n∧n≤9223372036854775807):Okv (ybn n):=by
 refine⟨ykd n,?_⟩;rw[ybn,Val.wf,Val.wf.wfL];exact⟨⟨by decide,by decide⟩,h,znq _,trivial⟩
theorem ybJ (b:Bool):Okv (yaH b):=ycF (by cases b<;>decide)
theorem yl7 {s:ByteArray}(h:s.size≤64):Okv (ybH s):=by
 refine⟨yiG h,?_⟩;rw[ybH,Val.wf,Val.wf.wfL];exact⟨⟨by decide,by decide⟩,⟨by decide,by decide⟩,by omega,trivial⟩
theorem ya3 {x:Val}(h:Okv x):Okv (yab x):=⟨by rw[yaO];exact h.1,yb1 x h.2⟩
theorem yeQ {l:List Val}(h:∀x∈l,x.wf):(Val.mk 3 0 ⟨#[]⟩ l).wf:=by
 rw[Val.wf];exact⟨⟨by decide,by decide⟩,⟨by decide,by decide⟩,znq _,Val.wfL_iff.2 h⟩
theorem yjt {x y:Val}(h:Okv x)(hk:x.kind=3)(hy:y∈x.list):Okv y:=by
 cases x with
 |mk k n s l=>
  have hk:k=3:=hk;subst hk;exact⟨yiJ h.1 hy,Val.wfL_mem ((Val.wf_eq _).1 h.2).2.2.2 hy⟩
structure Pk (p:Img):Prop where
 consts:∀x∈p.consts,Okv x
 names:∀x∈p.names,x.size≤64
structure Vs (s:MS):Prop where
 stk:∀x∈s.stk,Okv x
 pls:∀x∈s.places,Okv x
 inp:Okv s.input
 tms:∀x∈s.timers.list,Okv x.result∧ -1≤x.how∧x.how≤1∧1≤x.id∧x.id≤s.timers.next
 acs:∀x∈s.acts.list,Okv x.result∧ -1≤x.how∧x.how≤1∧1≤x.id∧x.id≤s.acts.next
 lts:∀x∈s.letters,Okv x.v∧x.name.size≤64
 mds:∀c∈s.made,yaT c=0∧c.v.wf
 now:0≤s.now∧s.now≤4611686018427387903
 nt:0≤s.timers.next∧s.timers.next≤s.made.length
 na:0≤s.acts.next∧s.acts.next≤s.made.length
theorem Vs.push {s:MS}(V:Vs s){x:Val}(h:Okv x):Vs (s.push x):=⟨fun y hy=>(List.mem_append.1 hy).elim (V.stk y) (fun e=>by rw[List.mem_singleton.1 e];exact h),V.pls,V.inp,V.tms,V.acs,V.lts,V.mds,V.now,V.nt,V.na⟩
theorem yc8 {α:Type}{x:α}:∀{l:List α},x∈l.dropLast→x∈l:=fun h=>List.dropLast_subset _ h
theorem Vs.pop {s:MS}(V:Vs s):Vs s.pop:=⟨fun y hy=>V.stk y (yc8 hy),V.pls,V.inp,V.tms,V.acs,V.lts,V.mds,V.now,V.nt,V.na⟩
theorem Vs.nxt {s:MS}(V:Vs s):Vs s.nxt:=⟨V.stk,V.pls,V.inp,V.tms,V.acs,V.lts,V.mds,V.now,V.nt,V.na⟩
theorem Vs.jump {s:MS}(V:Vs s)(k:Nat):Vs {s with at_:=k}:=⟨V.stk,V.pls,V.inp,V.tms,V.acs,V.lts,V.mds,V.now,V.nt,V.na⟩
theorem Vs.top {s:MS}(V:Vs s):Okv s.top:=by
 unfold MS.top;cases h:s.stk.getLast? with
 |none=>exact ybN
 |some x=>exact V.stk x (List.mem_of_getLast? h)
theorem Vs.openL {s:MS}(V:Vs s)(i:Nat):Vs (s.openL i):=⟨V.stk,V.pls,V.inp,V.tms,V.acs,fun y hy=>V.lts y (List.mem_of_mem_eraseIdx hy),V.mds,V.now,V.nt,V.na⟩
theorem Vs.letV {s:MS}(V:Vs s)(i:Nat):Okv (s.letV i):=by
 unfold MS.letV;cases h:s.letters[i]? with
 |none=>exact ybN
 |some x=>exact(V.lts x (zmg h)).1
theorem Vs.want {s:MS}(V:Vs s){c:Cm}(h:yaT {c with time:=s.now,v:=yab c.v}=0)(hw:c.v.wf):Vs (s.want c):=
 ⟨V.stk,V.pls,V.inp,V.tms,V.acs,V.lts,fun y hy=>(List.mem_append.1 hy).elim (V.mds y) (fun e=>by rw[List.mem_singleton.1 e];exact⟨h,yb1 _ hw⟩),V.now,
   ⟨V.nt.1,by have:=V.nt.2;show _≤(((s.made++[_]).length:Nat):Int);rw[znk];show s.timers.next≤((s.made.length+1:Nat):Int);omega⟩,⟨V.na.1,by have:=V.na.2;show _≤(((s.made++[_]).length:Nat):Int);rw[znk];show s.acts.next≤((s.made.length+1:Nat):Int);omega⟩⟩
theorem ycy {c:Cm}{fa fb fn fv:Bool}(hh:yka c.kind=some (fa,fb,fn,fv))(ht:0≤c.time∧c.time≤4611686018427387903)(ha:0≤c.a∧(fa=false→c.a=0))(hb:0≤c.b∧(fb=false→c.b=0))(hn:c.name.size≤64∧(fn=false→c.name.size=0))(hv:checkL c.v=0∧(fv=false→c.v.kind=0)):yaT c=0:=by
 unfold yaT;rw[hh];dsimp only;rw[if_neg,if_neg (by omega),if_neg]
 ·exact hv.1
 ·rintro(⟨h1,h2⟩|⟨h1,h2⟩)
  ·exact h2 (hn.2 h1)
  ·exact h2 (hv.2 h1)
 ·rintro(h|h|h|h|⟨h1,h2⟩|⟨h1,h2⟩)
  ·omega
  ·omega
  ·omega
  ·omega
  ·exact h2 (ha.2 h1)
  ·exact h2 (hb.2 h1)
theorem Vs.fall {s:MS}(V:Vs s){why:ByteArray}(h:why.size≤59):Vs (s.fall why):=by
 have V2:Vs {s with trap:=why}:=⟨V.stk,V.pls,V.inp,V.tms,V.acs,V.lts,V.mds,V.now,V.nt,V.na⟩;refine V2.want (ycy (fa:=false) (fb:=false) (fn:=true) (fv:=false) rfl V.now ⟨Int.le_refl _,fun _=>rfl⟩ ⟨Int.le_refl _,fun _=>rfl⟩ ⟨?_,fun e=>by cases e⟩ ⟨by rw[yaO];exact ycb,fun _=>rfl⟩) ydt;show(⟨#[116,114,97,112,32]⟩++why:ByteArray).size≤64;rw[ByteArray.size_append];show 5+why.size≤64;omega
theorem Vs.put {s:MS}(V:Vs s){x:Val}(h:checkL x=0→x.wf):Vs (s.put x):=by
 unfold MS.put;split
 ·exact V.fall (by decide)
 ·rename_i h0
  have h0:checkL x=0:=by simpa using h0
  exact V.push ⟨h0,h h0⟩
theorem ylQ (n:Int): -9223372036854775808≤wrap64 n∧wrap64 n≤9223372036854775807:=by unfold wrap64;omega
theorem Vs.arith {s:MS}(V:Vs s)(op:Int)(a b:Val):Vs (s.arith op a b):=by
 unfold MS.arith;split
 ·exact V.fall (by decide)
 ·exact V.push (ycF (ylQ _))
theorem ylT {s:ByteArray}(h:checkL (ybH s)=0):(ybH s).wf:=by
 have h1:=(ybb.1 h).1;rw[ybH,yal]at h1;have h1:(bif decide (256<s.size)then(2:Int)else 0)=0:=h1;have hl:s.size≤256:=by
  by_cases e:256<s.size
  ·rw[zno e]at h1;cases h1
  ·omega
 rw[ybH,Val.wf,Val.wf.wfL];exact⟨⟨by decide,by decide⟩,⟨by decide,by decide⟩,by omega,trivial⟩
theorem Vs.two {s:MS}(V:Vs s)(op:Int){a b:Val}(ha:Okv a)(hb:Okv b):Vs (s.two op a b):=by
 unfold MS.two;split
 ·exact V.push (ybJ _)
 ·split
  ·exact V.push (ybJ _)
  ·split
   ·split
    ·exact V.fall (by decide)
    ·rename_i hk
     refine V.push (ya3 ?_);split
     ·cases h:a.list[b.num.toNat]? with
      |none=>exact ybN
      |some x=>exact yjt ha (by omega) (zmg h)
     ·exact ybN
   ·split
    ·split
     ·exact V.put ylT
     ·split
      ·refine V.put (fun _=>yb1 _ (yeQ fun x hx=> ?_))
       rcases List.mem_append.1 hx with hx|hx
       ·exact Val.wfL_mem ((Val.wf_eq _).1 ha.2).2.2.2 hx
       ·exact Val.wfL_mem ((Val.wf_eq _).1 hb.2).2.2.2 hx
      ·exact V.fall (by decide)
    ·exact V.arith op a b
theorem yne {x:Val}(h:Okv x)(hk:x.kind=3):x.list.length≤64:=by
 cases x with
 |mk k n s l=>
  have hk:k=3:=hk;subst hk;have h1:=(ybb.1 h.1).1;rw[yal]at h1;have h1:(yal.walkL l 1 (1,bif decide (64<l.length)then 2 else 0)).2=0:=h1;show l.length≤64;by_cases e:64<l.length
  ·rw[zno e,show(bif true then(2:Int)else 0)=2 from rfl,yaV l 1 (1,2) rfl]at h1
   cases h1
  ·omega
theorem Vs.reckon {s:MS}(V:Vs s)(op:Int)(k:Nat):Vs (s.reckon op k):=by
 unfold MS.reckon;split
 ·have V2:Vs {s with stk:=s.stk.take (s.stk.length - k)}:=⟨fun y hy=>V.stk y (List.mem_of_mem_take hy),V.pls,V.inp,V.tms,V.acs,V.lts,V.mds,V.now,V.nt,V.na⟩
  exact V2.put (fun _=>yeQ fun x hx=>(V.stk x (List.mem_of_mem_drop hx)).2)
 ·split
  ·exact V.pop.push (ybJ _)
  ·split
   ·split
    ·rename_i hk
     have:=yne V.top hk;exact V.pop.push (ycF (by omega))
    ·split
     ·have h:=((Val.wf_eq _).1 V.top.2).2.2.1
      exact V.pop.push (ycF (by omega))
     ·exact V.pop.fall (by decide)
   ·exact V.pop.pop.two op V.pop.top V.top
theorem Vs.begin_ {s:MS}(V:Vs s)(op:Int){name:ByteArray}(hn:name.size≤64)(hm:s.made.length<4611686018427387904):Vs (s.begin_ op name):=by
 have ht:=V.nt;have ha:=V.na;unfold MS.begin_;dsimp only;split
 ·split
  ·exact V.pop.fall (by decide)
  ·rename_i i hf
   have hk:s.top.kind=1∧yat s.top.num s.timers.list=some i:=by
    split at hf
    ·rename_i hk;exact⟨hk,hf⟩
    ·cases hf
   obtain⟨x,hx,hid⟩:=Go.Va.findT_some hk.2;have V2:Vs {s.pop with timers:=⟨s.timers.list.eraseIdx i,s.timers.next⟩}:=⟨V.pop.stk,V.pls,V.inp,fun y hy=>V.tms y (List.mem_of_mem_eraseIdx hy),V.acs,V.lts,V.mds,V.now,V.nt,V.na⟩;rw[hx];dsimp only[Option.getD];cases x.over with
   |true=>exact V2.push (ybJ _)
   |false=>
    have hb:=V.tms x (zmg hx);refine Vs.push (V2.want (ycy (fa:=true) (fb:=false) (fn:=false) (fv:=false) rfl V.now ⟨?_,fun e=>by cases e⟩ ⟨Int.le_refl _,fun _=>rfl⟩ ⟨znq _,fun _=>rfl⟩ ⟨by rw[yaO];exact ycb,fun _=>rfl⟩) ydt) (ybJ _);show 0≤s.top.num;omega
 ·split
  ·exact V.pop.fall (by decide)
  ·rename_i hr
   split
   ·exact V.pop.fall (by decide)
   ·have hv:0≤s.top.num:=by omega
    split
    ·refine Vs.push ?_ (ycF (by omega))
     have hc:=V.pop.top;refine⟨V.pop.pop.stk,V.pls,V.inp,V.tms,fun y hy=> ?_,V.lts,fun c hc'=> ?_,V.now,⟨ht.1,?_⟩,⟨?_,?_⟩⟩
     ·rcases List.mem_append.1 hy with hy|hy
      ·have:=V.acs y hy
       exact⟨this.1,this.2.1,this.2.2.1,this.2.2.2.1,by show y.id≤s.acts.next+1;omega⟩
      ·rw[List.mem_singleton.1 hy]
       exact⟨ybN,by show(-1:Int)≤0;decide,by show(0:Int)≤1;decide,by show 1≤s.acts.next+1;omega,Int.le_refl _⟩
     ·rcases List.mem_append.1 hc' with hc'|hc'
      ·exact V.mds c hc'
      ·rw[List.mem_singleton.1 hc']
       exact⟨ycy (fa:=true) (fb:=true) (fn:=true) (fv:=true) rfl V.now ⟨by show 0≤s.acts.next+1;omega,fun e=>by cases e⟩ ⟨hv,fun e=>by cases e⟩ ⟨hn,fun e=>by cases e⟩ ⟨by rw[yaO];exact hc.1,fun e=>by cases e⟩,yb1 _ hc.2⟩
     ·show s.timers.next≤(((s.made++[_]).length:Nat):Int)
      rw[znk];show s.timers.next≤((s.made.length+1:Nat):Int);omega
     ·show 0≤s.acts.next+1
      omega
     ·show s.acts.next+1≤(((s.made++[_]).length:Nat):Int)
      rw[znk];show s.acts.next+1≤((s.made.length+1:Nat):Int);omega
    ·refine Vs.push ?_ (ycF (by omega))
     refine⟨V.pop.stk,V.pls,V.inp,fun y hy=> ?_,V.acs,V.lts,fun c hc'=> ?_,V.now,⟨?_,?_⟩,⟨ha.1,?_⟩⟩
     ·rcases List.mem_append.1 hy with hy|hy
      ·have:=V.tms y hy
       exact⟨this.1,this.2.1,this.2.2.1,this.2.2.2.1,by show y.id≤s.timers.next+1;omega⟩
      ·rw[List.mem_singleton.1 hy]
       exact⟨ybN,by show(-1:Int)≤0;decide,by show(0:Int)≤1;decide,by show 1≤s.timers.next+1;omega,Int.le_refl _⟩
     ·rcases List.mem_append.1 hc' with hc'|hc'
      ·exact V.mds c hc'
      ·rw[List.mem_singleton.1 hc']
       exact⟨ycy (fa:=true) (fb:=true) (fn:=false) (fv:=false) rfl V.now ⟨by show 0≤s.timers.next+1;omega,fun e=>by cases e⟩ ⟨hv,fun e=>by cases e⟩ ⟨znq _,fun _=>rfl⟩ ⟨by rw[yaO];exact ycb,fun _=>rfl⟩,yb1 _ ydt⟩
     ·show 0≤s.timers.next+1
      omega
     ·show s.timers.next+1≤(((s.made++[_]).length:Nat):Int)
      rw[znk];show s.timers.next+1≤((s.made.length+1:Nat):Int);omega
     ·show s.acts.next≤(((s.made++[_]).length:Nat):Int)
      rw[znk];show s.acts.next≤((s.made.length+1:Nat):Int);omega
theorem yaW {a b:MS}{c:Prop}[Decidable c](ha:c→Vs a)(hb:¬c→Vs b):Vs (if c then a else b):=by
 split
 ·rename_i h;exact ha h
 ·rename_i h;exact hb h
theorem Vs.wait {s s':MS}(V:Vs s){op:Int}{name:ByteArray}(h:s.wait op name=some s'):Vs s':=by
 unfold MS.wait at h;split at h
 ·cases hf:yap name s.letters with
  |none=>rw[hf]at h;cases h
  |some i=>rw[hf]at h;cases h;exact((V.openL i).push (V.letV i)).nxt
 ·dsimp only at h
  split at h
  ·cases h;exact V.fall (by decide)
  ·rename_i i hf
   have hf2:yat s.top.num (if op=21 then s.acts.list else s.timers.list)=some i:=by
    split at hf
    ·exact hf
    ·cases hf
   obtain⟨x,hx,hid⟩:=Go.Va.findT_some hf2;split at h
   ·rename_i k _
    cases h;exact(((V.pop.openL k).push (V.letV k)).push (ybJ _)).nxt
   ·rw[hx]at h
    dsimp only[Option.getD]at h;have hxo:Okv x.result∧ -1≤x.how∧x.how≤1:=by
     have hm:=zmg hx;split at hm
     ·have:=V.acs x hm;exact⟨this.1,this.2.1,this.2.2.1⟩
     ·have:=V.tms x hm;exact⟨this.1,this.2.1,this.2.2.1⟩
    cases hov:x.over with
    |false=>rw[hov]at h;cases h
    |true=>
     rw[hov]at h;simp only[Bool.not_true,znl,Option.some.injEq]at h;have V1:Vs (if op=21 then{s.pop with acts:=⟨(if op=21 then s.acts.list else s.timers.list).eraseIdx i,s.acts.next⟩}else{s.pop with timers:=⟨(if op=21 then s.acts.list else s.timers.list).eraseIdx i,s.timers.next⟩}):=by
      by_cases h21:op=21
      ·rw[if_pos h21,if_pos h21]
       exact⟨V.pop.stk,V.pls,V.inp,V.tms,fun y hy=>V.acs y (List.mem_of_mem_eraseIdx hy),V.lts,V.mds,V.now,V.nt,V.na⟩
      ·rw[if_neg h21,if_neg h21]
       exact⟨V.pop.stk,V.pls,V.inp,fun y hy=>V.tms y (List.mem_of_mem_eraseIdx hy),V.acs,V.lts,V.mds,V.now,V.nt,V.na⟩
     have hnow:=V.now;rw[←h];refine Vs.nxt ?_;exact yaW (fun _=>V1.push (ycF (n:=s.now) (by omega))) (fun _=>yaW (fun _=>(V1.push hxo.1).push (ycF (n:=x.how) (by omega))) (fun _=>(V1.push ybN).push (ybJ _)))
theorem Vs.end_ {s:MS}(V:Vs s)(op:Int){name:ByteArray}(hn:name.size≤64):Vs (s.end_ op name):=by
 unfold MS.end_;split
 ·exact V.pop.want (ycy (fa:=false) (fb:=false) (fn:=false) (fv:=true) rfl V.now ⟨Int.le_refl _,fun _=>rfl⟩ ⟨Int.le_refl _,fun _=>rfl⟩ ⟨znq _,fun _=>rfl⟩ ⟨by rw[yaO];exact V.top.1,fun e=>by cases e⟩) V.top.2
 ·split
  ·exact V.pop.want (ycy (fa:=false) (fb:=false) (fn:=false) (fv:=true) rfl V.now ⟨Int.le_refl _,fun _=>rfl⟩ ⟨Int.le_refl _,fun _=>rfl⟩ ⟨znq _,fun _=>rfl⟩ ⟨by rw[yaO];exact V.top.1,fun e=>by cases e⟩) V.top.2
  ·exact V.want (ycy (fa:=false) (fb:=false) (fn:=true) (fv:=false) rfl V.now ⟨Int.le_refl _,fun _=>rfl⟩ ⟨Int.le_refl _,fun _=>rfl⟩ ⟨hn,fun e=>by cases e⟩ ⟨by rw[yaO];exact ycb,fun _=>rfl⟩) ydt
theorem Pk.name {p:Img}(P:Pk p)(k:Nat):(p.names[k]?.getD ⟨#[]⟩).size≤64:=by
 cases h:p.names[k]? with
 |none=>exact znq _
 |some x=>exact P.names x (zmg h)
theorem Vs.go {p:Img}(P:Pk p){s:MS}(V:Vs s)(op:Int)(k:Nat)(hm:s.made.length<4611686018427387904):Vs (s.go p op k):=by
 have hget:∀(l:List Val),(∀x∈l,Okv x)→Okv (l[k]?.getD yai):=fun l hl=>by
  cases h:l[k]? with
  |none=>exact ybN
  |some x=>exact hl x (zmg h)
 have hnow:=V.now;unfold MS.go;dsimp only;refine yaW (fun _=>V.push (ya3 (hget _ P.consts))) (fun _=>yaW (fun _=>V.pop) (fun _=>yaW (fun _=>V.push (ya3 V.top)) (fun _=>yaW (fun _=>(V.pop.pop.push V.top).push V.pop.top) (fun _=>yaW (fun _=>V.push (ya3 (hget _ V.pls))) (fun _=>yaW (fun _=> ?_) (fun _=>yaW (fun _=>V.push (ya3 V.inp)) (fun _=>yaW (fun _=>V.push (ycF (by omega))) (fun _=>yaW (fun _=>V.push (ybJ _)) (fun _=>yaW (fun _=> ?_) (fun _=>yaW (fun _=>V.begin_ op (P.name k) hm) (fun _=>yaW (fun _=>V) (fun _=>V.reckon op k))))))))))))
 ·refine⟨V.pop.stk,fun y hy=> ?_,V.inp,V.tms,V.acs,V.lts,V.mds,V.now,V.nt,V.na⟩
  rcases List.mem_or_eq_of_mem_set hy with hy|rfl
  ·exact V.pls y hy
  ·exact V.top
 ·cases yap (p.names[k]?.getD ⟨#[]⟩) s.letters with
  |none=>exact(V.push ybN).push (ybJ _)
  |some i=>exact((V.openL i).push (V.letV i)).push (ybJ _)
theorem Vs.step {p:Img}(P:Pk p){s s':MS}(V:Vs s)(hm:s.made.length<4611686018427387904)(h:yak p s=some s'):Vs s':=by
 unfold yak at h;dsimp only at h;cases hb:(ofL (p.code[s.at_]?.getD ⟨0,0⟩).op).1.blocks with
 |true=>rw[hb]at h;exact V.wait h
 |false=>
  rw[hb]at h;simp only[znl]at h;cases he:(ofL (p.code[s.at_]?.getD ⟨0,0⟩).op).1.ends with
  |true=>rw[he]at h;cases h;exact V.end_ _ (P.name _)
  |false=>
   rw[he]at h;simp only[znl]at h;cases hf:(ofL (p.code[s.at_]?.getD ⟨0,0⟩).op).1.flow with
   |true=>
    rw[hf]at h;cases h;cases((p.code[s.at_]?.getD ⟨0,0⟩).op==11)
    ·cases ycp s.top
     ·exact V.pop.jump _
     ·exact V.pop.nxt
    ·exact V.jump _
   |false=>
    rw[hf]at h;cases h;exact V.nxt.go P _ _ hm
def ynX (c:Cm):Bool:=c.kind==4||c.kind==5||c.kind==6
def MdR (s s':MS):Prop:=∃l,s'.made=s.made++l∧l.length≤1∧∀c∈l,c.time=s.now∧(ynX c=true→s'.over=true)
theorem MdR.same {s s':MS}(h:s'.made=s.made):MdR s s':=⟨[],by rw[h,List.append_nil],znq _,fun c hc=>by cases hc⟩
theorem MdR.want (s:MS)(c:Cm):MdR s (s.want c):=by
 refine⟨[{c with time:=s.now,v:=yab c.v}],rfl,znc _,fun d hd=> ?_⟩;rw[List.mem_singleton.1 hd];refine⟨rfl,fun h=> ?_⟩;show(s.over||(c.kind==4||c.kind==5||c.kind==6))=true;have h:(c.kind==4||c.kind==5||c.kind==6)=true:=h;rw[h,Bool.or_true]
theorem MdR.from_ {a s s':MS}(hm:a.made=s.made)(hn:a.now=s.now)(h:MdR a s'):MdR s s':=by
 obtain⟨l,h1,h2,h3⟩:=h;exact⟨l,by rw[h1,hm],h2,fun c hc=>by rw[←hn];exact h3 c hc⟩
theorem MdR.to_ {s a s':MS}(hm:s'.made=a.made)(ho:s'.over=a.over)(h:MdR s a):MdR s s':=by
 obtain⟨l,h1,h2,h3⟩:=h;exact⟨l,by rw[hm,h1],h2,fun c hc=>by rw[ho];exact h3 c hc⟩
theorem MdR.fall (s:MS)(why:ByteArray):MdR s (s.fall why):=MdR.from_ (a:={s with trap:=why}) rfl rfl (MdR.want _ _)
theorem MdR.put (s:MS)(v:Val):MdR s (s.put v):=by
 unfold MS.put;split
 ·exact MdR.fall _ _
 ·exact MdR.same rfl
theorem MdR.arith (s:MS)(op:Int)(a b:Val):MdR s (s.arith op a b):=by
 unfold MS.arith;split
 ·exact MdR.fall _ _
 ·exact MdR.same rfl
theorem yaF {s a b:MS}{c:Prop}[Decidable c](ha:MdR s a)(hb:MdR s b):MdR s (if c then a else b):=by
 split
 ·exact ha
 ·exact hb
theorem MdR.two (s:MS)(op:Int)(a b:Val):MdR s (s.two op a b):=by
 unfold MS.two;exact yaF (MdR.same rfl) (yaF (MdR.same rfl) (yaF (yaF (MdR.fall _ _) (MdR.same rfl)) (yaF (yaF (MdR.put _ _) (yaF (MdR.put _ _) (MdR.fall _ _))) (MdR.arith _ _ _ _))))
theorem MdR.reckon (s:MS)(op:Int)(k:Nat):MdR s (s.reckon op k):=by
 unfold MS.reckon;exact yaF (MdR.from_ (a:={s with stk:=s.stk.take (s.stk.length - k)}) rfl rfl (MdR.put _ _)) (yaF (MdR.same rfl) (yaF (yaF (MdR.same rfl) (yaF (MdR.same rfl) (MdR.from_ (a:=s.pop) rfl rfl (MdR.fall _ _)))) (MdR.from_ (a:=s.pop.pop) rfl rfl (MdR.two _ _ _ _))))
theorem MdR.begin_ (s:MS)(op:Int)(name:ByteArray):MdR s (s.begin_ op name):=by
 unfold MS.begin_;dsimp only;refine yaF ?_ (yaF (MdR.from_ (a:=s.pop) rfl rfl (MdR.fall _ _)) (yaF (MdR.from_ (a:=s.pop) rfl rfl (MdR.fall _ _)) (yaF ?_ ?_)))
 ·split
  ·exact MdR.from_ (a:=s.pop) rfl rfl (MdR.fall _ _)
  ·rename_i i _
   cases(s.timers.list[i]?.getD ⟨0,false,yai,0⟩).over with
   |true=>exact MdR.same rfl
   |false=>
    obtain⟨x,hx⟩:∃x:MS,x={s.pop with timers:=⟨s.timers.list.eraseIdx i,s.timers.next⟩}:=⟨_,rfl⟩;rw[←hx];exact MdR.to_ (a:=x.want ⟨2,0,s.top.num,0,⟨#[]⟩,yai⟩) rfl rfl (MdR.from_ (a:=x) (by rw[hx];rfl) (by rw[hx];rfl) (MdR.want _ _))
 ·obtain⟨x,hx⟩:∃x:MS,x={s.pop.pop with acts:=yb2 s.acts}:=⟨_,rfl⟩
  rw[←hx];exact MdR.to_ (a:=x.want ⟨3,0,s.acts.next+1,s.top.num,name,s.pop.top⟩) rfl rfl (MdR.from_ (a:=x) (by rw[hx];rfl) (by rw[hx];rfl) (MdR.want _ _))
 ·obtain⟨x,hx⟩:∃x:MS,x={s.pop with timers:=yb2 s.timers}:=⟨_,rfl⟩
  rw[←hx];exact MdR.to_ (a:=x.want ⟨1,0,s.timers.next+1,s.top.num,⟨#[]⟩,yai⟩) rfl rfl (MdR.from_ (a:=x) (by rw[hx];rfl) (by rw[hx];rfl) (MdR.want _ _))
theorem MdR.wait {s s':MS}{op:Int}{name:ByteArray}(h:s.wait op name=some s'):MdR s s':=by
 unfold MS.wait at h;split at h
 ·cases hf:yap name s.letters with
  |none=>rw[hf]at h;cases h
  |some i=>rw[hf]at h;cases h;exact MdR.same rfl
 ·dsimp only at h
  split at h
  ·cases h;exact MdR.fall _ _
  ·split at h
   ·cases h;exact MdR.same rfl
   ·rename_i i _ _ _
    cases hov:((if op=21 then s.acts.list else s.timers.list)[i]?.getD ⟨0,false,yai,0⟩).over with
    |false=>rw[hov]at h;cases h
    |true=>
     rw[hov]at h;simp only[Bool.not_true,znl,Option.some.injEq]at h;rw[←h];by_cases h21:op=21
     ·rw[if_pos h21]
      by_cases h18:op=18
      ·rw[if_pos h18];exact MdR.same rfl
      ·rw[if_neg h18,if_pos h21];exact MdR.same rfl
     ·rw[if_neg h21]
      by_cases h18:op=18
      ·rw[if_pos h18];exact MdR.same rfl
      ·rw[if_neg h18,if_neg h21];exact MdR.same rfl
theorem MdR.end_ (s:MS)(op:Int)(name:ByteArray):MdR s (s.end_ op name):=by
 unfold MS.end_;exact yaF (MdR.from_ (a:=s.pop) rfl rfl (MdR.want _ _)) (yaF (MdR.from_ (a:=s.pop) rfl rfl (MdR.want _ _)) (MdR.want _ _))
theorem MdR.go (s:MS)(p:Img)(op:Int)(k:Nat):MdR s (s.go p op k):=by
 unfold MS.go;dsimp only;refine yaF (MdR.same rfl) (yaF (MdR.same rfl) (yaF (MdR.same rfl) (yaF (MdR.same rfl) (yaF (MdR.same rfl) (yaF (MdR.same rfl) (yaF (MdR.same rfl) (yaF (MdR.same rfl) (yaF (MdR.same rfl) (yaF ?_ (yaF (MdR.begin_ _ _ _) (yaF (MdR.same rfl) (MdR.reckon _ _ _))))))))))));cases yap (p.names[k]?.getD ⟨#[]⟩) s.letters<;>exact MdR.same rfl
theorem MdR.step {p:Img}{s s':MS}(h:yak p s=some s'):MdR s s':=by
 unfold yak at h;dsimp only at h;cases hb:(ofL (p.code[s.at_]?.getD ⟨0,0⟩).op).1.blocks with
 |true=>rw[hb]at h;exact MdR.wait h
 |false=>
  rw[hb]at h;simp only[znl]at h;cases he:(ofL (p.code[s.at_]?.getD ⟨0,0⟩).op).1.ends with
  |true=>rw[he]at h;cases h;exact MdR.end_ _ _ _
  |false=>
   rw[he]at h;simp only[znl]at h;cases hf:(ofL (p.code[s.at_]?.getD ⟨0,0⟩).op).1.flow with
   |true=>
    rw[hf]at h;cases h;cases((p.code[s.at_]?.getD ⟨0,0⟩).op==11)
    ·cases ycp s.top<;>exact MdR.same rfl
    ·exact MdR.same rfl
   |false=>
    rw[hf]at h;cases h;exact MdR.from_ (a:=s.nxt) rfl rfl (MdR.go _ _ _ _)
structure Ml (s:MS):Prop where
 last:∀c∈s.made.dropLast,ynX c=false
 all:s.over=false→∀c∈s.made,ynX c=false
theorem Ml.step {p:Img}{s s':MS}(M:Ml s)(ho:s.over=false)(h:yak p s=some s'):Ml s':=by
 obtain⟨l,h1,h2,h3⟩:=MdR.step h;have ha:=M.all ho
 match l,h1,h2,h3 with
 |[],h1,_,_=>
  rw[List.append_nil]at h1;exact⟨fun c hc=>by rw[h1]at hc;exact ha c (yc8 hc),fun _ c hc=>by rw[h1]at hc;exact ha c hc⟩
 |[d],h1,_,h3=>
  refine⟨fun c hc=>by rw[h1,List.dropLast_concat]at hc;exact ha c hc,fun ho' c hc=> ?_⟩;rw[h1]at hc;rcases List.mem_append.1 hc with hc|hc
  ·exact ha c hc
  ·rw[List.mem_singleton.1 hc]
   cases he:ynX d with
   |false=>rfl
   |true=>
    have:=(h3 d (List.mem_singleton.2 rfl)).2 he;rw[ho']at this;cases this
 |_::_::_,_,h2,_=>simp at h2
theorem yhm {p:Img}(P:Pk p):∀(f:Nat) (s:MS),Vs s→Ml s→s.made.length+f<4611686018427387904→
  Vs (ya2 p f s)∧Ml (ya2 p f s)∧∃l,(ya2 p f s).made=s.made++l∧l.length≤f∧∀c∈l,c.time=s.now
 |0,s,V,M,_=>⟨V,M,[],by rw[List.append_nil];rfl,znc _,fun c hc=>by cases hc⟩
 |f+1,s,V,M,hf=>by
  by_cases ho:s.over=true
  ·have e:ya2 p (f+1) s=s:=by rw[ya2,ho];rfl
   rw[e];exact⟨V,M,[],by rw[List.append_nil],znq _,fun c hc=>by cases hc⟩
  ·have ho:s.over=false:=by simpa using ho
   cases hs:yak p s with
   |none=>
    have e:ya2 p (f+1) s=s:=by rw[ya2,ho,hs];rfl
    rw[e];exact⟨V,M,[],by rw[List.append_nil],znq _,fun c hc=>by cases hc⟩
   |some s'=>
    have e:ya2 p (f+1) s=ya2 p f {s' with steps:=s'.steps+1}:=by rw[ya2,ho,hs];rfl
    rw[e];obtain⟨l,h1,h2,h3⟩:=MdR.step hs;have hl:s'.made.length≤s.made.length+1:=by rw[h1,znk];omega
    have V1:=V.step P (by omega) hs;have V2:Vs {s' with steps:=s'.steps+1}:=⟨V1.stk,V1.pls,V1.inp,V1.tms,V1.acs,V1.lts,V1.mds,V1.now,V1.nt,V1.na⟩;have M1:=M.step ho hs;have M2:Ml {s' with steps:=s'.steps+1}:=⟨M1.last,M1.all⟩;obtain⟨i1,i2,k,i3,i4,i5⟩:=yhm P f {s' with steps:=s'.steps+1} V2 M2 (by show s'.made.length+f<_;omega);have hn:=(ybw hs).now;refine⟨i1,i2,l++k,by rw[i3,←List.append_assoc,←h1],by rw[znk];omega,fun c hc=> ?_⟩;rcases List.mem_append.1 hc with hc|hc
    ·exact(h3 c hc).1
    ·exact(i5 c hc).trans hn
structure Nt where
 t:Int
 a:Int
 cs:List Int
def nt1 (n:Nt)(c:Cm):Nt:=if c.kind=1 then{n with t:=n.t+1}else if c.kind=3 then{n with a:=n.a+1}else if c.kind=2 then{n with cs:=c.a::n.cs}else n
def ok1 (n:Nt)(c:Cm):Prop:=if c.kind=1 then c.a=n.t+1 else if c.kind=3 then c.a=n.a+1 else if c.kind=2 then 1≤c.a∧c.a≤n.t∧c.a∉n.cs else True
def ntL:List Cm→Nt→Nt
 |[],n=>n
 |c::r,n=>ntL r (nt1 n c)
def okL:List Cm→Nt→Prop
 |[],_=>True
 |c::r,n=>ok1 n c∧okL r (nt1 n c)
def nt0:Nt:=⟨0,0,[]⟩
structure Nm (s:MS):Prop where
 ok:okL s.made nt0
 t:(ntL s.made nt0).t=s.timers.next
 a:(ntL s.made nt0).a=s.acts.next
 nodup:(s.timers.list.map (·.id)).Nodup
 ids:∀x∈s.timers.list,1≤x.id∧x.id≤s.timers.next∧x.id∉ (ntL s.made nt0).cs
theorem ycg {e:Ev}(h:yaj e=0):(0≤e.time∧e.time≤4611686018427387903)∧1≤e.id∧e.id≤1048576∧0≤e.a∧0≤e.b∧e.name.size≤64∧e.text.size≤128∧checkL e.v=0:=by
 unfold yaj at h;split at h
 ·cases h
 ·split at h
  ·cases h
  ·split at h
   ·cases h
   ·split at h
    ·cases h
    ·split at h
     ·cases h
     ·split at h
      ·cases h
      ·exact⟨by omega,by omega,by omega,by omega,by omega,by omega,by omega,h⟩
theorem ygE {id how:Int}{v:Val}{P:Th→Prop}:∀{l:List Th},(∀x∈l,P x)→(∀x∈l,P ⟨x.id,true,yab v,how⟩)→∀x∈ycw id how v l,P x
 |[],_,_,x,hx=>by cases hx
 |y::r,h1,h2,x,hx=>by
  rw[ycw]at hx;split at hx
  ·cases hy:y.over with
   |true=>
    rw[hy]at hx;exact h1 x hx
   |false=>
    rw[hy]at hx;rcases List.mem_cons.1 hx with rfl|hx
    ·exact h2 y zmf
    ·exact h1 x (zme _ hx)
  ·rcases List.mem_cons.1 hx with rfl|hx
   ·exact h1 x zmf
   ·exact ygE (fun z hz=>h1 z (zme _ hz)) (fun z hz=>h2 z (zme _ hz)) x hx
theorem Vs.end1 {s:MS}(V:Vs s)(id how:Int){v:Val}(hv:Okv v)(hh: -1≤how∧how≤1):Vs {s with timers:=⟨ycw id how v s.timers.list,s.timers.next⟩}:=
 ⟨V.stk,V.pls,V.inp,ygE V.tms (fun x hx=>⟨ya3 hv,hh.1,hh.2,(V.tms x hx).2.2.2⟩),V.acs,V.lts,V.mds,V.now,V.nt,V.na⟩
theorem Vs.end2 {s:MS}(V:Vs s)(id how:Int){v:Val}(hv:Okv v)(hh: -1≤how∧how≤1):Vs {s with acts:=⟨ycw id how v s.acts.list,s.acts.next⟩}:=
 ⟨V.stk,V.pls,V.inp,V.tms,ygE V.acs (fun x hx=>⟨ya3 hv,hh.1,hh.2,(V.acs x hx).2.2.2⟩),V.lts,V.mds,V.now,V.nt,V.na⟩
theorem Vs.hear {s:MS}(V:Vs s){e:Ev}(h:yaj e=0)(hw:e.v.wf):Vs (hear s e):=by
 obtain⟨_,_,_,_,_,hn,_,hc⟩:=ycg h;have ho:Okv e.v:=⟨hc,hw⟩;unfold Go.Va.hear;refine yaW (fun _=>⟨V.stk,V.pls,ya3 ho,V.tms,V.acs,V.lts,V.mds,V.now,V.nt,V.na⟩) (fun _=>yaW (fun _=>V.end1 _ _ ybN (by decide)) (fun _=>yaW (fun _=>V.end2 _ _ ho (by decide)) (fun _=>yaW (fun _=>V.end2 _ _ (yl7 hn) (by decide)) (fun _=>yaW (fun _=>V.end2 _ _ ybN (by decide)) (fun _=>yaW (fun _=> ?_) (fun _=>yaW (fun _=>⟨V.stk,V.pls,V.inp,V.tms,V.acs,V.lts,V.mds,V.now,V.nt,V.na⟩) (fun _=>⟨V.stk,V.pls,V.inp,V.tms,V.acs,V.lts,V.mds,V.now,V.nt,V.na⟩)))))));refine⟨V.stk,V.pls,V.inp,V.tms,V.acs,fun y hy=> ?_,V.mds,V.now,V.nt,V.na⟩;rcases List.mem_append.1 hy with hy|hy
 ·exact V.lts y hy
 ·rw[List.mem_singleton.1 hy]
  exact⟨ya3 ho,hn⟩
theorem ydU (s:MS)(e:Ev):(hear s e).made=s.made∧(hear s e).now=s.now∧((hear s e).over=false→s.over=false):=by
 unfold hear
 repeat' split
 all_goals first|exact⟨rfl,rfl,fun h=>h⟩|exact⟨rfl,rfl,fun h=>by cases h⟩
theorem yiN {p:Img}(P:Pk p){s:MS}(V:Vs s)(M:Ml s)(e:Ev)(hw:e.v.wf){N:Nat}(hN:s.over=false→pot s≤N)(hb:s.made.length+(p.code.length+1)*(N+2)<4611686018427387904):
  Vs (yay p s e).2∧Ml (yay p s e).2∧∃l,(yay p s e).2.made=s.made++l∧l.length≤(p.code.length+1)*(N+2)∧((yay p s e).1≠0→l=[])∧∀c∈l,c.time=e.time:=by
 have hno:Vs s∧Ml s∧∃l:List Cm,s.made=s.made++l∧l.length≤(p.code.length+1)*(N+2)∧(∀k:Int,k≠0→l=[])∧∀c∈l,c.time=e.time:=⟨V,M,[],by rw[List.append_nil],znq _,fun _ _=>rfl,fun c hc=>by cases hc⟩;unfold yay;split
 ·obtain⟨h1,h2,l,h3,h4,h5,h6⟩:=hno
  exact⟨h1,h2,l,h3,h4,h5 _,h6⟩
 ·rename_i hc
  have hc0:yaj e=0:=by
   by_cases h:yaj e=0
   ·exact h
   ·exact absurd (.inl h) hc
  split
  ·obtain⟨h1,h2,l,h3,h4,h5,h6⟩:=hno
   exact⟨h1,h2,l,h3,h4,h5 _,h6⟩
  ·rename_i ho
   have ho:s.over=false:=by simpa using ho
   split
   ·obtain⟨h1,h2,l,h3,h4,h5,h6⟩:=hno
    exact⟨h1,h2,l,h3,h4,h5 _,h6⟩
   ·obtain⟨s0,hs0⟩:∃s0:MS,s0={s with now:=e.time,steps:=0,events:=s.events+1}:=⟨_,rfl⟩
    rw[←hs0];have V0:Vs s0:=by rw[hs0];exact⟨V.stk,V.pls,V.inp,V.tms,V.acs,V.lts,V.mds,(ycg hc0).1,V.nt,V.na⟩
    have hm0:s0.made=s.made:=by rw[hs0]
    have hn0:s0.now=e.time:=by rw[hs0]
    have hp0:pot s0=pot s:=by rw[hs0];rfl
    obtain⟨g1,g2,g3⟩:=ydU s0 e;have V1:=V0.hear hc0 hw;have M1:Ml (hear s0 e):=⟨fun c hc=>by rw[g1,hm0]at hc;exact M.last c hc,fun _ c hc=>by rw[g1,hm0]at hc;exact M.all ho c hc⟩;have hq:=(ydo s0 e).1;have hfu:fuel p (hear s0 e)≤(p.code.length+1)*(N+2):=Nat.mul_le_mul_left _ (by have:=hN ho;omega);obtain⟨k1,k2,l,k3,k4,k5⟩:=yhm P (fuel p (hear s0 e)) (hear s0 e) V1 M1 (by rw[g1,hm0];omega);exact⟨k1,k2,l,by show(ya2 p _ _).made=_;rw[k3,g1,hm0],by omega,fun h=>absurd rfl h,fun c hc=>by rw[k5 c hc,g2,hn0]⟩
theorem vs0 {p:Img}:Vs (ms0 p):=⟨fun x hx=>(by cases hx),fun x hx=>(by rw[List.eq_of_mem_replicate hx];exact ybN),ybN,fun x hx=>(by cases hx),fun x hx=>(by cases hx),fun x hx=>(by cases hx),fun x hx=>(by cases hx),⟨Int.le_refl _,by show(0:Int)≤4611686018427387903;decide⟩,⟨Int.le_refl _,Int.le_refl _⟩,⟨Int.le_refl _,Int.le_refl _⟩⟩
theorem ml0 {p:Img}:Ml (ms0 p):=⟨fun x hx=>(by cases hx),fun _ x hx=>(by cases hx)⟩
def yiR (now ticks:Int):Int:=if now<0∨ticks<0 then 0 else if 4611686018427387903≤now∨4611686018427387903 - now<ticks then 4611686018427387903 else now+ticks
def evOfC (c:Cm):Ev:=
 if c.kind=1 then⟨0,c.time,11,c.a,yiR c.time c.b,⟨#[]⟩,⟨#[]⟩,yai⟩else
 if c.kind=2 then⟨0,c.time,13,c.a,0,⟨#[]⟩,⟨#[]⟩,yai⟩else
 if c.kind=3 then⟨0,c.time,7,c.a,c.b,c.name,⟨#[]⟩,yab c.v⟩else
 if c.kind=4 then⟨0,c.time,16,0,0,⟨#[]⟩,⟨#[]⟩,yab c.v⟩else
 if c.kind=5 then⟨0,c.time,17,0,0,c.name,⟨#[]⟩,yai⟩else
 if c.kind=6 then⟨0,c.time,21,0,0,⟨#[]⟩,⟨#[]⟩,yab c.v⟩else⟨0,c.time,0,0,0,⟨#[]⟩,⟨#[]⟩,yai⟩
def ye7 (c:Cm)(e:Ev):Bool:=
 let w:=evOfC c
 (w.kind !=0)&&((w.time==e.time)&&((w.kind==e.kind)&&((w.a==e.a)&&(((bif w.kind==21 then e.b else w.b)==e.b)&&(decide (w.name=e.name)&&(decide (w.text=e.text)&&(cmpV w.v e.v==0)))))))
def yb7 (k:Int):Bool:=decide (k=11∨k=13∨k=7∨k=16∨k=17∨k=21)
def ybq (k:Int):Bool:=decide (16≤k∧k≤21)
structure RP where
 m:MS
 seen:Nat
 next:Nat
 fired:List Int
 closed:Bool
 err:Int
def ybP (fired:List Int)(c:Cm):Bool:=(c.kind==2)&&decide (c.a∈fired)
def ybr (fired:List Int):List Cm→Nat→Nat
 |[],n=>n
 |c::r,n=>bif ybP fired c then ybr fired r (n+1)else n
def ybo (p:Img)(r:RP)(e:Ev):Int×RP:=
 if yaj e≠0 then(9,r)else
 if e.id≠(r.seen:Int)+1 then(180,r)else
 if r.closed=true then(181,r)else
 if(r.seen=0∧e.kind≠1)∨(r.seen≠0∧e.kind=1)then(7,r)else
 if yaS e.kind=true then(0,{r with m:=(yay p r.m e).2,seen:=r.seen+1,fired:=if e.kind=12 then e.a::r.fired else r.fired,closed:=ybq e.kind})else
 if yb7 e.kind=true then
  let n:=ybr r.fired (r.m.made.drop r.next) r.next
  match r.m.made[n]? with
  |none=>(150,{r with seen:=r.seen+1,next:=n})
  |some c=>if ye7 c e=true then(0,{r with seen:=r.seen+1,next:=n+1,closed:=ybq e.kind})else(150,{r with seen:=r.seen+1,next:=n})
 else(0,{r with seen:=r.seen+1,closed:=ybq e.kind})
def yaK (p:Img):RP→List Ev→RP
 |r,[]=>r
 |r,e::l=>bif r.err !=0 then r else yaK p {(ybo p r e).2 with err:=(ybo p r e).1} l
def rp0 (p:Img):RP:=⟨ms0 p,0,0,[],false,0⟩
def ybD (r:RP):List Cm:=bif (r.err !=0)||r.closed then[]else(r.m.made.drop r.next).filter (fun c=> !ybP r.fired c)
def ybh (r:RP)(e:Ev):Int:=
 if yaj e≠0 then 9 else if e.id≠(r.seen:Int)+1 then 180 else if r.closed=true then 181 else if(r.seen=0∧e.kind≠1)∨(r.seen≠0∧e.kind=1)then 7 else 0
theorem yjs {p:Img}{r:RP}{e:Ev}(h:ybh r e≠0):ybo p r e=(ybh r e,r):=by
 unfold ybo;unfold ybh at h⊢;split
 ·rfl
 ·split
  ·rfl
  ·split
   ·rfl
   ·split
    ·rfl
    ·rename_i g1 g2 g3 g4
     rw[if_neg g1,if_neg g2,if_neg g3,if_neg g4]at h;exact absurd rfl h
theorem yhr {p:Img}{r:RP}{e:Ev}(h:ybh r e=0):((ybo p r e).1=0∧(ybo p r e).2.seen=r.seen+1∧(ybo p r e).2.closed=ybq e.kind)∨((ybo p r e).1=150∧yb7 e.kind=true):=by
 unfold ybh at h;unfold ybo;split at h
 ·cases h
 ·rename_i g1
  rw[if_neg g1];split at h
  ·cases h
  ·rename_i g2
   rw[if_neg g2];split at h
   ·cases h
   ·rename_i g3
    rw[if_neg g3];split at h
    ·cases h
    ·rename_i g4
     rw[if_neg g4];split
     ·exact .inl ⟨rfl,rfl,rfl⟩
     ·split
      ·rename_i hm
       dsimp only;split
       ·exact .inr ⟨rfl,hm⟩
       ·split
        ·exact .inl ⟨rfl,rfl,rfl⟩
        ·exact .inr ⟨rfl,hm⟩
      ·exact .inl ⟨rfl,rfl,rfl⟩
end Go.Va
namespace Go.Va
open Go.Own Go.Own.MapTy Go.RowKit
def mOf:List Int→List (Int×Bool)
 |[]=>[]
 |c::r=>upd (mOf r) c true
theorem yjO:∀(cs:List Int) (x:Int),get (mOf cs) x=if x∈cs then some true else none
 |[],x=>rfl
 |c::r,x=>by
  rw[mOf,yms,yjO r];by_cases h:x=c
  ·rw[if_pos h,if_pos (by rw[h];exact zmf ..)]
  ·rw[if_neg h]
   by_cases h2:x∈r
   ·rw[if_pos h2,if_pos (zme _ h2)]
   ·rw[if_neg h2,if_neg (fun e=>(List.mem_cons.1 e).elim h h2)]
end Go.Va
namespace Go.Proofs.YtpagmlndgblhhaaGreatDoor
open Go.RowKit Go.Own Go.Own.MapTy Go.Va Go.Sort
open Go.Own.Cells (sz enc)
abbrev NM:MapTy Int Bool:=IM Bool Value.bool
theorem ynu (n:Nat)(em:Bool)(W:World)(x:Int):(Instr.checkKey em (n+1) 2 (.int .i64 x)).run Tryz.prog W= .ok () W:=by simp[Instr.checkKey,go_sem]
theorem ymb:KLaw NM Tryz.prog 2:=IM.klaw Tryz.underlying2 (fun W em x=>ynu 9999 em W x)
theorem yjx {w:World}{b:Nat}{cs:List Int}(h:MapAt NM w b (mOf cs))(r:Int)(c:Bool)(hc:decide (r∈cs)=c)(W:World)(hW:yei w b W):(Instr.lookup 57 (.map (some b)) (.int .i64 r) false).run Tryz.prog W= .ok (.bool c) W:=by
 have:=h.lookS ymb Tryz.underlying57 (z:=.bool false) (fun W=>by kernel_rfl) r false W hW;subst hc;rw[yjO]at this;by_cases hr:r∈cs
 ·rw[if_pos hr]at this;rw[zno hr];exact this
 ·rw[if_neg hr]at this;rw[znd hr];exact this
theorem ycH {w w':World}{b:Nat}{m:List (Int×Bool)}(h:MapAt NM w b m)(B:Below w.heap.size w w'):MapAt NM w' b m:=by
 obtain⟨es,ck,h1,h2,h3⟩:=h;exact⟨es,ck,(B.block _ (zlt h1)).trans h1,h2,h3⟩
end Go.Proofs.YtpagmlndgblhhaaGreatDoor
