/- Parts of the proof: what the functions and the plain laws give that later parts lean on. Conditions: none beyond those that each theorem names. -/
import Derived.Test.YtpagmlndgblhhaaGreatDoorW8
set_option maxRecDepth 100000
set_option maxHeartbeats 8000000
namespace Go.Va
open Go.Own Go.RowKit
open Go.Proofs.YtpagmlndgblhhaaGreatDoor
def yk1 (k:Int):Option (Bool×Bool×Bool×Bool):=
 if k=1 then some (true,true,false,false)else if k=2 then some (true,false,false,false)else if k=3 then some (true,true,true,true)else if k=4\/k=6 then some (false,false,false,true)else if k=5 then some (false,false,true,false)else none
def yaX (c:Cm):Int:=
 match yk1 c.kind with
 |none=>9
 |some (fa,fb,fn,fv)=>
  if c.time<0\/4611686018427387903<c.time\/c.a<0\/c.b<0\/(fa=false/\c.a≠0)\/(fb=false/\c.b≠0)then 1 else
  if 64<c.name.size then 2 else
  if(fn=false/\c.name.size≠0)\/(fv=false/\c.v.kind≠0)then 8 else checkL c.v
theorem ydt:yag.wf:=by
 rw[yag,Val.wf,Val.wf.wfL];exact⟨⟨by decide,by decide⟩,⟨by decide,by decide⟩,znq _,trivial⟩
theorem yb4:Okv yag:=⟨yb9,ydt⟩
theorem yc2 {n:Int}(h: -9223372036854775808<=n/\n<=9223372036854775807):Okv (ybD n):=by
 refine⟨yk4 n,?_⟩;rw[ybD,Val.wf,Val.wf.wfL];exact⟨⟨by decide,by decide⟩,h,znq _,trivial⟩
theorem yb1 (b:Bool):Okv (yaE b):=yc2 (by cases b<;>decide)
theorem ync {s:ByteArray}(h:s.size<=64):Okv (ybZ s):=by
 refine⟨yju h,?_⟩;rw[ybZ,Val.wf,Val.wf.wfL];exact⟨⟨by decide,by decide⟩,⟨by decide,by decide⟩,by omega,trivial⟩
theorem ya7 {x:Val}(h:Okv x):Okv (yaa x):=⟨by rw[yaz];exact h.1,ya9 x h.2⟩
theorem yfr {l:List Val}(h:∀x∈l,x.wf):(Val.mk 3 0 ⟨#[]⟩ l).wf:=by
 rw[Val.wf];exact⟨⟨by decide,by decide⟩,⟨by decide,by decide⟩,znq _,Val.wfL_iff.2 h⟩
theorem ykk {x y:Val}(h:Okv x)(hk:x.kind=3)(hy:y∈x.list):Okv y:=by
 cases x with
 |mk k n s l=>
  have hk:k=3:=hk;subst hk;exact⟨yjx h.1 hy,Val.wfL_mem ((Val.wf_eq _).1 h.2).2.2.2 hy⟩
structure Pk (p:Img):Prop where
 consts:∀x∈p.consts,Okv x
 names:∀x∈p.names,x.size<=64
structure Vs (s:MS):Prop where
 stk:∀x∈s.stk,Okv x
 pls:∀x∈s.places,Okv x
 inp:Okv s.input
 tms:∀x∈s.timers.list,Okv x.result/\ -1<=x.how/\x.how<=1/\1<=x.id/\x.id<=s.timers.next
 acs:∀x∈s.acts.list,Okv x.result/\ -1<=x.how/\x.how<=1/\1<=x.id/\x.id<=s.acts.next
 lts:∀x∈s.letters,Okv x.v/\x.name.size<=64
 mds:∀c∈s.made,yaX c=0/\c.v.wf
 now:0<=s.now/\s.now<=4611686018427387903
 nt:0<=s.timers.next/\s.timers.next<=s.made.length
 na:0<=s.acts.next/\s.acts.next<=s.made.length
theorem Vs.push {s:MS}(V:Vs s){x:Val}(h:Okv x):Vs (s.push x):=⟨fun y hy=>(List.mem_append.1 hy).elim (V.stk y) (fun e=>by rw[List.mem_singleton.1 e];exact h),V.pls,V.inp,V.tms,V.acs,V.lts,V.mds,V.now,V.nt,V.na⟩
theorem ydv {α:Type}{x:α}:∀{l:List α},x∈l.dropLast->x∈l:=fun h=>List.dropLast_subset _ h
theorem Vs.pop {s:MS}(V:Vs s):Vs s.pop:=⟨fun y hy=>V.stk y (ydv hy),V.pls,V.inp,V.tms,V.acs,V.lts,V.mds,V.now,V.nt,V.na⟩
theorem Vs.nxt {s:MS}(V:Vs s):Vs s.nxt:=⟨V.stk,V.pls,V.inp,V.tms,V.acs,V.lts,V.mds,V.now,V.nt,V.na⟩
theorem Vs.jump {s:MS}(V:Vs s)(k:Nat):Vs {s with at_:=k}:=⟨V.stk,V.pls,V.inp,V.tms,V.acs,V.lts,V.mds,V.now,V.nt,V.na⟩
theorem Vs.top {s:MS}(V:Vs s):Okv s.top:=by
 unfold MS.top;cases h:s.stk.getLast? with
 |none=>exact yb4
 |some x=>exact V.stk x (List.mem_of_getLast? h)
theorem Vs.openL {s:MS}(V:Vs s)(i:Nat):Vs (s.openL i):=⟨V.stk,V.pls,V.inp,V.tms,V.acs,fun y hy=>V.lts y (List.mem_of_mem_eraseIdx hy),V.mds,V.now,V.nt,V.na⟩
theorem Vs.letV {s:MS}(V:Vs s)(i:Nat):Okv (s.letV i):=by
 unfold MS.letV;cases h:s.letters[i]? with
 |none=>exact yb4
 |some x=>exact(V.lts x (zmg h)).1
theorem Vs.want {s:MS}(V:Vs s){c:Cm}(h:yaX {c with time:=s.now,v:=yaa c.v}=0)(hw:c.v.wf):Vs (s.want c):=
 ⟨V.stk,V.pls,V.inp,V.tms,V.acs,V.lts,fun y hy=>(List.mem_append.1 hy).elim (V.mds y) (fun e=>by rw[List.mem_singleton.1 e];exact⟨h,ya9 _ hw⟩),V.now,
   ⟨V.nt.1,by have:=V.nt.2;show _<=(((s.made++[_]).length:Nat):Int);rw[znk];show s.timers.next<=((s.made.length+1:Nat):Int);omega⟩,⟨V.na.1,by have:=V.na.2;show _<=(((s.made++[_]).length:Nat):Int);rw[znk];show s.acts.next<=((s.made.length+1:Nat):Int);omega⟩⟩
theorem ycS {c:Cm}{fa fb fn fv:Bool}(hh:yk1 c.kind=some (fa,fb,fn,fv))(ht:0<=c.time/\c.time<=4611686018427387903)(ha:0<=c.a/\(fa=false->c.a=0))(hb:0<=c.b/\(fb=false->c.b=0))(hn:c.name.size<=64/\(fn=false->c.name.size=0))(hv:checkL c.v=0/\(fv=false->c.v.kind=0)):yaX c=0:=by
 unfold yaX;rw[hh];dsimp only;rw[if_neg,if_neg (by omega),if_neg]
 .exact hv.1
 .rintro(⟨B,A⟩|⟨B,A⟩)
  .exact A (hn.2 B)
  .exact A (hv.2 B)
 .rintro(h|h|h|h|⟨B,A⟩|⟨B,A⟩)
  .omega
  .omega
  .omega
  .omega
  .exact A (ha.2 B)
  .exact A (hb.2 B)
theorem Vs.fall {s:MS}(V:Vs s){why:ByteArray}(h:why.size<=59):Vs (s.fall why):=by
 have A:Vs {s with trap:=why}:=⟨V.stk,V.pls,V.inp,V.tms,V.acs,V.lts,V.mds,V.now,V.nt,V.na⟩;refine A.want (ycS (fa:=false) (fb:=false) (fn:=true) (fv:=false) rfl V.now ⟨Int.le_refl _,fun _=>rfl⟩ ⟨Int.le_refl _,fun _=>rfl⟩ ⟨?_,fun e=>by cases e⟩ ⟨by rw[yaz];exact yb9,fun _=>rfl⟩) ydt;show(⟨#[116,114,97,112,32]⟩++why:ByteArray).size<=64;rw[ByteArray.size_append];show 5+why.size<=64;omega
theorem Vs.put {s:MS}(V:Vs s){x:Val}(h:checkL x=0->x.wf):Vs (s.put x):=by
 unfold MS.put;split
 .exact V.fall (by decide)
 .rename_i A
  have A:checkL x=0:=by simpa using A
  exact V.push ⟨A,h A⟩
theorem ymP (n:Int): -9223372036854775808<=wrap64 n/\wrap64 n<=9223372036854775807:=by unfold wrap64;omega
theorem Vs.arith {s:MS}(V:Vs s)(op:Int)(a b:Val):Vs (s.arith op a b):=by
 unfold MS.arith;split
 .exact V.fall (by decide)
 .exact V.push (yc2 (ymP _))
theorem ymS {s:ByteArray}(h:checkL (ybZ s)=0):(ybZ s).wf:=by
 have A:=(ybr.1 h).1;rw[ybZ,yan]at A;have A:(bif decide (256<s.size)then(2:Int)else 0)=0:=A;have B:s.size<=256:=by
  by_cases e:256<s.size
  .rw[zno e]at A;cases A
  .omega
 rw[ybZ,Val.wf,Val.wf.wfL];exact⟨⟨by decide,by decide⟩,⟨by decide,by decide⟩,by omega,trivial⟩
theorem Vs.two {s:MS}(V:Vs s)(op:Int){a b:Val}(ha:Okv a)(hb:Okv b):Vs (s.two op a b):=by
 unfold MS.two;split
 .exact V.push (yb1 _)
 .split
  .exact V.push (yb1 _)
  .split
   .split
    .exact V.fall (by decide)
    .rename_i hk
     refine V.push (ya7 ?_);split
     .cases h:a.list[b.num.toNat]? with
      |none=>exact yb4
      |some x=>exact ykk ha (by omega) (zmg h)
     .exact yb4
   .split
    .split
     .exact V.put ymS
     .split
      .refine V.put (fun _=>ya9 _ (yfr fun x A=> ?_))
       rcases List.mem_append.1 A with A|A
       .exact Val.wfL_mem ((Val.wf_eq _).1 ha.2).2.2.2 A
       .exact Val.wfL_mem ((Val.wf_eq _).1 hb.2).2.2.2 A
      .exact V.fall (by decide)
    .exact V.arith op a b
theorem you {x:Val}(h:Okv x)(hk:x.kind=3):x.list.length<=64:=by
 cases x with
 |mk k n s l=>
  have hk:k=3:=hk;subst hk;have A:=(ybr.1 h.1).1;rw[yan]at A;have A:(yan.walkL l 1 (1,bif decide (64<l.length)then 2 else 0)).2=0:=A;show l.length<=64;by_cases e:64<l.length
  .rw[zno e,show(bif true then(2:Int)else 0)=2 from rfl,ya3 l 1 (1,2) rfl]at A
   cases A
  .omega
theorem Vs.reckon {s:MS}(V:Vs s)(op:Int)(k:Nat):Vs (s.reckon op k):=by
 unfold MS.reckon;split
 .have A:Vs {s with stk:=s.stk.take (s.stk.length - k)}:=⟨fun y hy=>V.stk y (List.mem_of_mem_take hy),V.pls,V.inp,V.tms,V.acs,V.lts,V.mds,V.now,V.nt,V.na⟩
  exact A.put (fun _=>yfr fun x hx=>(V.stk x (List.mem_of_mem_drop hx)).2)
 .split
  .exact V.pop.push (yb1 _)
  .split
   .split
    .rename_i hk
     have:=you V.top hk;exact V.pop.push (yc2 (by omega))
    .split
     .have h:=((Val.wf_eq _).1 V.top.2).2.2.1
      exact V.pop.push (yc2 (by omega))
     .exact V.pop.fall (by decide)
   .exact V.pop.pop.two op V.pop.top V.top
theorem Vs.begin_ {s:MS}(V:Vs s)(op:Int){name:ByteArray}(hn:name.size<=64)(hm:s.made.length<4611686018427387904):Vs (s.begin_ op name):=by
 have G:=V.nt;have I:=V.na;unfold MS.begin_;dsimp only;split
 .split
  .exact V.pop.fall (by decide)
  .rename_i i C
   have hk:s.top.kind=1/\yax s.top.num s.timers.list=some i:=by
    split at C
    .rename_i hk;exact⟨hk,C⟩
    .cases C
   obtain⟨x,D,H⟩:=Go.Va.findT_some hk.2;have F:Vs {s.pop with timers:=⟨s.timers.list.eraseIdx i,s.timers.next⟩}:=⟨V.pop.stk,V.pls,V.inp,fun y B=>V.tms y (List.mem_of_mem_eraseIdx B),V.acs,V.lts,V.mds,V.now,V.nt,V.na⟩;rw[D];dsimp only[Option.getD];cases x.over with
   |true=>exact F.push (yb1 _)
   |false=>
    have K:=V.tms x (zmg D);refine Vs.push (F.want (ycS (fa:=true) (fb:=false) (fn:=false) (fv:=false) rfl V.now ⟨?_,fun e=>by cases e⟩ ⟨Int.le_refl _,fun _=>rfl⟩ ⟨znq _,fun _=>rfl⟩ ⟨by rw[yaz];exact yb9,fun _=>rfl⟩) ydt) (yb1 _);show 0<=s.top.num;omega
 .split
  .exact V.pop.fall (by decide)
  .rename_i J
   split
   .exact V.pop.fall (by decide)
   .have hv:0<=s.top.num:=by omega
    split
    .refine Vs.push ?_ (yc2 (by omega))
     have E:=V.pop.top;refine⟨V.pop.pop.stk,V.pls,V.inp,V.tms,fun y B=> ?_,V.lts,fun c A=> ?_,V.now,⟨G.1,?_⟩,⟨?_,?_⟩⟩
     .rcases List.mem_append.1 B with B|B
      .have:=V.acs y B
       exact⟨this.1,this.2.1,this.2.2.1,this.2.2.2.1,by show y.id<=s.acts.next+1;omega⟩
      .rw[List.mem_singleton.1 B]
       exact⟨yb4,by show(-1:Int)<=0;decide,by show(0:Int)<=1;decide,by show 1<=s.acts.next+1;omega,Int.le_refl _⟩
     .rcases List.mem_append.1 A with A|A
      .exact V.mds c A
      .rw[List.mem_singleton.1 A]
       exact⟨ycS (fa:=true) (fb:=true) (fn:=true) (fv:=true) rfl V.now ⟨by show 0<=s.acts.next+1;omega,fun e=>by cases e⟩ ⟨hv,fun e=>by cases e⟩ ⟨hn,fun e=>by cases e⟩ ⟨by rw[yaz];exact E.1,fun e=>by cases e⟩,ya9 _ E.2⟩
     .show s.timers.next<=(((s.made++[_]).length:Nat):Int)
      rw[znk];show s.timers.next<=((s.made.length+1:Nat):Int);omega
     .show 0<=s.acts.next+1
      omega
     .show s.acts.next+1<=(((s.made++[_]).length:Nat):Int)
      rw[znk];show s.acts.next+1<=((s.made.length+1:Nat):Int);omega
    .refine Vs.push ?_ (yc2 (by omega))
     refine⟨V.pop.stk,V.pls,V.inp,fun y B=> ?_,V.acs,V.lts,fun c A=> ?_,V.now,⟨?_,?_⟩,⟨I.1,?_⟩⟩
     .rcases List.mem_append.1 B with B|B
      .have:=V.tms y B
       exact⟨this.1,this.2.1,this.2.2.1,this.2.2.2.1,by show y.id<=s.timers.next+1;omega⟩
      .rw[List.mem_singleton.1 B]
       exact⟨yb4,by show(-1:Int)<=0;decide,by show(0:Int)<=1;decide,by show 1<=s.timers.next+1;omega,Int.le_refl _⟩
     .rcases List.mem_append.1 A with A|A
      .exact V.mds c A
      .rw[List.mem_singleton.1 A]
       exact⟨ycS (fa:=true) (fb:=true) (fn:=false) (fv:=false) rfl V.now ⟨by show 0<=s.timers.next+1;omega,fun e=>by cases e⟩ ⟨hv,fun e=>by cases e⟩ ⟨znq _,fun _=>rfl⟩ ⟨by rw[yaz];exact yb9,fun _=>rfl⟩,ya9 _ ydt⟩
     .show 0<=s.timers.next+1
      omega
     .show s.timers.next+1<=(((s.made++[_]).length:Nat):Int)
      rw[znk];show s.timers.next+1<=((s.made.length+1:Nat):Int);omega
     .show s.acts.next<=(((s.made++[_]).length:Nat):Int)
      rw[znk];show s.acts.next<=((s.made.length+1:Nat):Int);omega
theorem ya4 {a b:MS}{c:Prop}[Decidable c](ha:c->Vs a)(hb:¬c->Vs b):Vs (if c then a else b):=by
 split
 .rename_i h;exact ha h
 .rename_i h;exact hb h
theorem Vs.wait {s s':MS}(V:Vs s){op:Int}{name:ByteArray}(h:s.wait op name=some s'):Vs s':=by
 unfold MS.wait at h;split at h
 .cases A:yao name s.letters with
  |none=>rw[A]at h;cases h
  |some i=>rw[A]at h;cases h;exact((V.openL i).push (V.letV i)).nxt
 .dsimp only at h
  split at h
  .cases h;exact V.fall (by decide)
  .rename_i i A
   have C:yax s.top.num (if op=21 then s.acts.list else s.timers.list)=some i:=by
    split at A
    .exact A
    .cases A
   obtain⟨x,E,G⟩:=Go.Va.findT_some C;split at h
   .rename_i k _
    cases h;exact(((V.pop.openL k).push (V.letV k)).push (yb1 _)).nxt
   .rw[E]at h
    dsimp only[Option.getD]at h;have B:Okv x.result/\ -1<=x.how/\x.how<=1:=by
     have hm:=zmg E;split at hm
     .have:=V.acs x hm;exact⟨this.1,this.2.1,this.2.2.1⟩
     .have:=V.tms x hm;exact⟨this.1,this.2.1,this.2.2.1⟩
    cases hov:x.over with
    |false=>rw[hov]at h;cases h
    |true=>
     rw[hov]at h;simp only[Bool.not_true,znl,Option.some.injEq]at h;have D:Vs (if op=21 then{s.pop with acts:=⟨(if op=21 then s.acts.list else s.timers.list).eraseIdx i,s.acts.next⟩}else{s.pop with timers:=⟨(if op=21 then s.acts.list else s.timers.list).eraseIdx i,s.timers.next⟩}):=by
      by_cases h21:op=21
      .rw[if_pos h21,if_pos h21]
       exact⟨V.pop.stk,V.pls,V.inp,V.tms,fun y hy=>V.acs y (List.mem_of_mem_eraseIdx hy),V.lts,V.mds,V.now,V.nt,V.na⟩
      .rw[if_neg h21,if_neg h21]
       exact⟨V.pop.stk,V.pls,V.inp,fun y hy=>V.tms y (List.mem_of_mem_eraseIdx hy),V.acs,V.lts,V.mds,V.now,V.nt,V.na⟩
     have F:=V.now;rw[<-h];refine Vs.nxt ?_;exact ya4 (fun _=>D.push (yc2 (n:=s.now) (by omega))) (fun _=>ya4 (fun _=>(D.push B.1).push (yc2 (n:=x.how) (by omega))) (fun _=>(D.push yb4).push (yb1 _)))
theorem Vs.end_ {s:MS}(V:Vs s)(op:Int){name:ByteArray}(hn:name.size<=64):Vs (s.end_ op name):=by
 unfold MS.end_;split
 .exact V.pop.want (ycS (fa:=false) (fb:=false) (fn:=false) (fv:=true) rfl V.now ⟨Int.le_refl _,fun _=>rfl⟩ ⟨Int.le_refl _,fun _=>rfl⟩ ⟨znq _,fun _=>rfl⟩ ⟨by rw[yaz];exact V.top.1,fun e=>by cases e⟩) V.top.2
 .split
  .exact V.pop.want (ycS (fa:=false) (fb:=false) (fn:=false) (fv:=true) rfl V.now ⟨Int.le_refl _,fun _=>rfl⟩ ⟨Int.le_refl _,fun _=>rfl⟩ ⟨znq _,fun _=>rfl⟩ ⟨by rw[yaz];exact V.top.1,fun e=>by cases e⟩) V.top.2
  .exact V.want (ycS (fa:=false) (fb:=false) (fn:=true) (fv:=false) rfl V.now ⟨Int.le_refl _,fun _=>rfl⟩ ⟨Int.le_refl _,fun _=>rfl⟩ ⟨hn,fun e=>by cases e⟩ ⟨by rw[yaz];exact yb9,fun _=>rfl⟩) ydt
theorem Pk.name {p:Img}(P:Pk p)(k:Nat):(p.names[k]?.getD ⟨#[]⟩).size<=64:=by
 cases h:p.names[k]? with
 |none=>exact znq _
 |some x=>exact P.names x (zmg h)
theorem Vs.go {p:Img}(P:Pk p){s:MS}(V:Vs s)(op:Int)(k:Nat)(hm:s.made.length<4611686018427387904):Vs (s.go p op k):=by
 have A:∀(l:List Val),(∀x∈l,Okv x)->Okv (l[k]?.getD yag):=fun l hl=>by
  cases h:l[k]? with
  |none=>exact yb4
  |some x=>exact hl x (zmg h)
 have C:=V.now;unfold MS.go;dsimp only;refine ya4 (fun _=>V.push (ya7 (A _ P.consts))) (fun _=>ya4 (fun _=>V.pop) (fun _=>ya4 (fun _=>V.push (ya7 V.top)) (fun _=>ya4 (fun _=>(V.pop.pop.push V.top).push V.pop.top) (fun _=>ya4 (fun _=>V.push (ya7 (A _ V.pls))) (fun _=>ya4 (fun _=> ?_) (fun _=>ya4 (fun _=>V.push (ya7 V.inp)) (fun _=>ya4 (fun _=>V.push (yc2 (by omega))) (fun _=>ya4 (fun _=>V.push (yb1 _)) (fun _=>ya4 (fun _=> ?_) (fun _=>ya4 (fun _=>V.begin_ op (P.name k) hm) (fun _=>ya4 (fun _=>V) (fun _=>V.reckon op k))))))))))))
 .refine⟨V.pop.stk,fun y B=> ?_,V.inp,V.tms,V.acs,V.lts,V.mds,V.now,V.nt,V.na⟩
  rcases List.mem_or_eq_of_mem_set B with B|rfl
  .exact V.pls y B
  .exact V.top
 .cases yao (p.names[k]?.getD ⟨#[]⟩) s.letters with
  |none=>exact(V.push yb4).push (yb1 _)
  |some i=>exact((V.openL i).push (V.letV i)).push (yb1 _)
theorem Vs.step {p:Img}(P:Pk p){s s':MS}(V:Vs s)(hm:s.made.length<4611686018427387904)(h:yal p s=some s'):Vs s':=by
 unfold yal at h;dsimp only at h;cases hb:(ofL (p.code[s.at_]?.getD ⟨0,0⟩).op).1.blocks with
 |true=>rw[hb]at h;exact V.wait h
 |false=>
  rw[hb]at h;simp only[znl]at h;cases he:(ofL (p.code[s.at_]?.getD ⟨0,0⟩).op).1.ends with
  |true=>rw[he]at h;cases h;exact V.end_ _ (P.name _)
  |false=>
   rw[he]at h;simp only[znl]at h;cases hf:(ofL (p.code[s.at_]?.getD ⟨0,0⟩).op).1.flow with
   |true=>
    rw[hf]at h;cases h;cases((p.code[s.at_]?.getD ⟨0,0⟩).op==11)
    .cases ycm s.top
     .exact V.pop.jump _
     .exact V.pop.nxt
    .exact V.jump _
   |false=>
    rw[hf]at h;cases h;exact V.nxt.go P _ _ hm
def ymG (c:Cm):Bool:=c.kind==4||c.kind==5||c.kind==6
def MdR (s s':MS):Prop:=∃l,s'.made=s.made++l/\l.length<=1/\∀c∈l,c.time=s.now/\(ymG c=true->s'.over=true)
theorem MdR.same {s s':MS}(h:s'.made=s.made):MdR s s':=⟨[],by rw[h,List.append_nil],znq _,fun c hc=>by cases hc⟩
theorem MdR.want (s:MS)(c:Cm):MdR s (s.want c):=by
 refine⟨[{c with time:=s.now,v:=yaa c.v}],rfl,znc _,fun d hd=> ?_⟩;rw[List.mem_singleton.1 hd];refine⟨rfl,fun h=> ?_⟩;show(s.over||(c.kind==4||c.kind==5||c.kind==6))=true;have h:(c.kind==4||c.kind==5||c.kind==6)=true:=h;rw[h,Bool.or_true]
theorem MdR.from_ {a s s':MS}(hm:a.made=s.made)(hn:a.now=s.now)(h:MdR a s'):MdR s s':=by
 obtain⟨l,C,B,A⟩:=h;exact⟨l,by rw[C,hm],B,fun c hc=>by rw[<-hn];exact A c hc⟩
theorem MdR.to_ {s a s':MS}(hm:s'.made=a.made)(ho:s'.over=a.over)(h:MdR s a):MdR s s':=by
 obtain⟨l,C,B,A⟩:=h;exact⟨l,by rw[hm,C],B,fun c hc=>by rw[ho];exact A c hc⟩
theorem MdR.fall (s:MS)(why:ByteArray):MdR s (s.fall why):=MdR.from_ (a:={s with trap:=why}) rfl rfl (MdR.want _ _)
theorem MdR.put (s:MS)(v:Val):MdR s (s.put v):=by
 unfold MS.put;split
 .exact MdR.fall _ _
 .exact MdR.same rfl
theorem MdR.arith (s:MS)(op:Int)(a b:Val):MdR s (s.arith op a b):=by
 unfold MS.arith;split
 .exact MdR.fall _ _
 .exact MdR.same rfl
theorem yaF {s a b:MS}{c:Prop}[Decidable c](ha:MdR s a)(hb:MdR s b):MdR s (if c then a else b):=by
 split
 .exact ha
 .exact hb
theorem MdR.two (s:MS)(op:Int)(a b:Val):MdR s (s.two op a b):=by
 unfold MS.two;exact yaF (MdR.same rfl) (yaF (MdR.same rfl) (yaF (yaF (MdR.fall _ _) (MdR.same rfl)) (yaF (yaF (MdR.put _ _) (yaF (MdR.put _ _) (MdR.fall _ _))) (MdR.arith _ _ _ _))))
theorem MdR.reckon (s:MS)(op:Int)(k:Nat):MdR s (s.reckon op k):=by
 unfold MS.reckon;exact yaF (MdR.from_ (a:={s with stk:=s.stk.take (s.stk.length - k)}) rfl rfl (MdR.put _ _)) (yaF (MdR.same rfl) (yaF (yaF (MdR.same rfl) (yaF (MdR.same rfl) (MdR.from_ (a:=s.pop) rfl rfl (MdR.fall _ _)))) (MdR.from_ (a:=s.pop.pop) rfl rfl (MdR.two _ _ _ _))))
theorem MdR.begin_ (s:MS)(op:Int)(name:ByteArray):MdR s (s.begin_ op name):=by
 unfold MS.begin_;dsimp only;refine yaF ?_ (yaF (MdR.from_ (a:=s.pop) rfl rfl (MdR.fall _ _)) (yaF (MdR.from_ (a:=s.pop) rfl rfl (MdR.fall _ _)) (yaF ?_ ?_)))
 .split
  .exact MdR.from_ (a:=s.pop) rfl rfl (MdR.fall _ _)
  .rename_i i _
   cases(s.timers.list[i]?.getD ⟨0,false,yag,0⟩).over with
   |true=>exact MdR.same rfl
   |false=>
    obtain⟨x,A⟩:∃x:MS,x={s.pop with timers:=⟨s.timers.list.eraseIdx i,s.timers.next⟩}:=⟨_,rfl⟩;rw[<-A];exact MdR.to_ (a:=x.want ⟨2,0,s.top.num,0,⟨#[]⟩,yag⟩) rfl rfl (MdR.from_ (a:=x) (by rw[A];rfl) (by rw[A];rfl) (MdR.want _ _))
 .obtain⟨x,A⟩:∃x:MS,x={s.pop.pop with acts:=yck s.acts}:=⟨_,rfl⟩
  rw[<-A];exact MdR.to_ (a:=x.want ⟨3,0,s.acts.next+1,s.top.num,name,s.pop.top⟩) rfl rfl (MdR.from_ (a:=x) (by rw[A];rfl) (by rw[A];rfl) (MdR.want _ _))
 .obtain⟨x,A⟩:∃x:MS,x={s.pop with timers:=yck s.timers}:=⟨_,rfl⟩
  rw[<-A];exact MdR.to_ (a:=x.want ⟨1,0,s.timers.next+1,s.top.num,⟨#[]⟩,yag⟩) rfl rfl (MdR.from_ (a:=x) (by rw[A];rfl) (by rw[A];rfl) (MdR.want _ _))
theorem MdR.wait {s s':MS}{op:Int}{name:ByteArray}(h:s.wait op name=some s'):MdR s s':=by
 unfold MS.wait at h;split at h
 .cases hf:yao name s.letters with
  |none=>rw[hf]at h;cases h
  |some i=>rw[hf]at h;cases h;exact MdR.same rfl
 .dsimp only at h
  split at h
  .cases h;exact MdR.fall _ _
  .split at h
   .cases h;exact MdR.same rfl
   .rename_i i _ _ _
    cases hov:((if op=21 then s.acts.list else s.timers.list)[i]?.getD ⟨0,false,yag,0⟩).over with
    |false=>rw[hov]at h;cases h
    |true=>
     rw[hov]at h;simp only[Bool.not_true,znl,Option.some.injEq]at h;rw[<-h];by_cases h21:op=21
     .rw[if_pos h21]
      by_cases h18:op=18
      .rw[if_pos h18];exact MdR.same rfl
      .rw[if_neg h18,if_pos h21];exact MdR.same rfl
     .rw[if_neg h21]
      by_cases h18:op=18
      .rw[if_pos h18];exact MdR.same rfl
      .rw[if_neg h18,if_neg h21];exact MdR.same rfl
theorem MdR.end_ (s:MS)(op:Int)(name:ByteArray):MdR s (s.end_ op name):=by
 unfold MS.end_;exact yaF (MdR.from_ (a:=s.pop) rfl rfl (MdR.want _ _)) (yaF (MdR.from_ (a:=s.pop) rfl rfl (MdR.want _ _)) (MdR.want _ _))
theorem MdR.go (s:MS)(p:Img)(op:Int)(k:Nat):MdR s (s.go p op k):=by
 unfold MS.go;dsimp only;refine yaF (MdR.same rfl) (yaF (MdR.same rfl) (yaF (MdR.same rfl) (yaF (MdR.same rfl) (yaF (MdR.same rfl) (yaF (MdR.same rfl) (yaF (MdR.same rfl) (yaF (MdR.same rfl) (yaF (MdR.same rfl) (yaF ?_ (yaF (MdR.begin_ _ _ _) (yaF (MdR.same rfl) (MdR.reckon _ _ _))))))))))));cases yao (p.names[k]?.getD ⟨#[]⟩) s.letters<;>exact MdR.same rfl
theorem MdR.step {p:Img}{s s':MS}(h:yal p s=some s'):MdR s s':=by
 unfold yal at h;dsimp only at h;cases hb:(ofL (p.code[s.at_]?.getD ⟨0,0⟩).op).1.blocks with
 |true=>rw[hb]at h;exact MdR.wait h
 |false=>
  rw[hb]at h;simp only[znl]at h;cases he:(ofL (p.code[s.at_]?.getD ⟨0,0⟩).op).1.ends with
  |true=>rw[he]at h;cases h;exact MdR.end_ _ _ _
  |false=>
   rw[he]at h;simp only[znl]at h;cases hf:(ofL (p.code[s.at_]?.getD ⟨0,0⟩).op).1.flow with
   |true=>
    rw[hf]at h;cases h;cases((p.code[s.at_]?.getD ⟨0,0⟩).op==11)
    .cases ycm s.top<;>exact MdR.same rfl
    .exact MdR.same rfl
   |false=>
    rw[hf]at h;cases h;exact MdR.from_ (a:=s.nxt) rfl rfl (MdR.go _ _ _ _)
structure Ml (s:MS):Prop where
 last:∀c∈s.made.dropLast,ymG c=false
 all:s.over=false->∀c∈s.made,ymG c=false
theorem Ml.step {p:Img}{s s':MS}(M:Ml s)(ho:s.over=false)(h:yal p s=some s'):Ml s':=by
 obtain⟨l,B,E,D⟩:=MdR.step h;have C:=M.all ho
 match l,B,E,D with
 |[],B,_,_=>
  rw[List.append_nil]at B;exact⟨fun c A=>by rw[B]at A;exact C c (ydv A),fun _ c A=>by rw[B]at A;exact C c A⟩
 |[d],B,_,D=>
  refine⟨fun c A=>by rw[B,List.dropLast_concat]at A;exact C c A,fun ho' c A=> ?_⟩;rw[B]at A;rcases List.mem_append.1 A with A|A
  .exact C c A
  .rw[List.mem_singleton.1 A]
   cases he:ymG d with
   |false=>rfl
   |true=>
    have:=(D d (List.mem_singleton.2 rfl)).2 he;rw[ho']at this;cases this
 |_::_::_,_,E,_=>simp at E
theorem yid {p:Img}(P:Pk p):∀(f:Nat) (s:MS),Vs s->Ml s->s.made.length+f<4611686018427387904->
  Vs (ya1 p f s)/\Ml (ya1 p f s)/\∃l,(ya1 p f s).made=s.made++l/\l.length<=f/\∀c∈l,c.time=s.now
 |0,s,V,M,_=>⟨V,M,[],by rw[List.append_nil];rfl,znc _,fun c hc=>by cases hc⟩
 |f+1,s,V,M,hf=>by
  by_cases ho:s.over=true
  .have e:ya1 p (f+1) s=s:=by rw[ya1,ho];rfl
   rw[e];exact⟨V,M,[],by rw[List.append_nil],znq _,fun c hc=>by cases hc⟩
  .have ho:s.over=false:=by simpa using ho
   cases hs:yal p s with
   |none=>
    have e:ya1 p (f+1) s=s:=by rw[ya1,ho,hs];rfl
    rw[e];exact⟨V,M,[],by rw[List.append_nil],znq _,fun c hc=>by cases hc⟩
   |some s'=>
    have e:ya1 p (f+1) s=ya1 p f {s' with steps:=s'.steps+1}:=by rw[ya1,ho,hs];rfl
    rw[e];obtain⟨l,B,O,I⟩:=MdR.step hs;have N:s'.made.length<=s.made.length+1:=by rw[B,znk];omega
    have A:=V.step P (by omega) hs;have J:Vs {s' with steps:=s'.steps+1}:=⟨A.stk,A.pls,A.inp,A.tms,A.acs,A.lts,A.mds,A.now,A.nt,A.na⟩;have C:=M.step ho hs;have K:Ml {s' with steps:=s'.steps+1}:=⟨C.last,C.all⟩;obtain⟨G,F,k,E,L,D⟩:=yid P f {s' with steps:=s'.steps+1} J K (by show s'.made.length+f<_;omega);have H:=(ybM hs).now;refine⟨G,F,l++k,by rw[E,<-List.append_assoc,<-B],by rw[znk];omega,fun c hc=> ?_⟩;rcases List.mem_append.1 hc with hc|hc
    .exact(I c hc).1
    .exact(D c hc).trans H
structure Nt where
 t:Int
 a:Int
 cs:List Int
def nt1 (n:Nt)(c:Cm):Nt:=if c.kind=1 then{n with t:=n.t+1}else if c.kind=3 then{n with a:=n.a+1}else if c.kind=2 then{n with cs:=c.a::n.cs}else n
def ok1 (n:Nt)(c:Cm):Prop:=if c.kind=1 then c.a=n.t+1 else if c.kind=3 then c.a=n.a+1 else if c.kind=2 then 1<=c.a/\c.a<=n.t/\c.a∉n.cs else True
def ntL:List Cm->Nt->Nt
 |[],n=>n
 |c::r,n=>ntL r (nt1 n c)
def okL:List Cm->Nt->Prop
 |[],_=>True
 |c::r,n=>ok1 n c/\okL r (nt1 n c)
def nt0:Nt:=⟨0,0,[]⟩
structure Nm (s:MS):Prop where
 ok:okL s.made nt0
 t:(ntL s.made nt0).t=s.timers.next
 a:(ntL s.made nt0).a=s.acts.next
 nodup:(s.timers.list.map (·.id)).Nodup
 ids:∀x∈s.timers.list,1<=x.id/\x.id<=s.timers.next/\x.id∉ (ntL s.made nt0).cs
theorem ya0 {e:Ev}(h:yaf e=0):(0<=e.time/\e.time<=4611686018427387903)/\1<=e.id/\e.id<=1048576/\0<=e.a/\0<=e.b/\e.name.size<=64/\e.text.size<=128/\checkL e.v=0:=by
 unfold yaf at h;split at h
 .cases h
 .split at h
  .cases h
  .split at h
   .cases h
   .split at h
    .cases h
    .split at h
     .cases h
     .split at h
      .cases h
      .exact⟨by omega,by omega,by omega,by omega,by omega,by omega,by omega,h⟩
theorem yhx {id how:Int}{v:Val}{P:Th->Prop}:∀{l:List Th},(∀x∈l,P x)->(∀x∈l,P ⟨x.id,true,yaa v,how⟩)->∀x∈ycw id how v l,P x
 |[],_,_,x,hx=>by cases hx
 |y::r,h1,h2,x,hx=>by
  rw[ycw]at hx;split at hx
  .cases hy:y.over with
   |true=>
    rw[hy]at hx;exact h1 x hx
   |false=>
    rw[hy]at hx;rcases List.mem_cons.1 hx with rfl|hx
    .exact h2 y zmf
    .exact h1 x (zme _ hx)
  .rcases List.mem_cons.1 hx with rfl|hx
   .exact h1 x zmf
   .exact yhx (fun z hz=>h1 z (zme _ hz)) (fun z hz=>h2 z (zme _ hz)) x hx
theorem Vs.end1 {s:MS}(V:Vs s)(id how:Int){v:Val}(hv:Okv v)(hh: -1<=how/\how<=1):Vs {s with timers:=⟨ycw id how v s.timers.list,s.timers.next⟩}:=
 ⟨V.stk,V.pls,V.inp,yhx V.tms (fun x hx=>⟨ya7 hv,hh.1,hh.2,(V.tms x hx).2.2.2⟩),V.acs,V.lts,V.mds,V.now,V.nt,V.na⟩
theorem Vs.end2 {s:MS}(V:Vs s)(id how:Int){v:Val}(hv:Okv v)(hh: -1<=how/\how<=1):Vs {s with acts:=⟨ycw id how v s.acts.list,s.acts.next⟩}:=
 ⟨V.stk,V.pls,V.inp,V.tms,yhx V.acs (fun x hx=>⟨ya7 hv,hh.1,hh.2,(V.acs x hx).2.2.2⟩),V.lts,V.mds,V.now,V.nt,V.na⟩
theorem Vs.hear {s:MS}(V:Vs s){e:Ev}(h:yaf e=0)(hw:e.v.wf):Vs (hear s e):=by
 obtain⟨_,_,_,_,_,C,_,D⟩:=ya0 h;have B:Okv e.v:=⟨D,hw⟩;unfold Go.Va.hear;refine ya4 (fun _=>⟨V.stk,V.pls,ya7 B,V.tms,V.acs,V.lts,V.mds,V.now,V.nt,V.na⟩) (fun _=>ya4 (fun _=>V.end1 _ _ yb4 (by decide)) (fun _=>ya4 (fun _=>V.end2 _ _ B (by decide)) (fun _=>ya4 (fun _=>V.end2 _ _ (ync C) (by decide)) (fun _=>ya4 (fun _=>V.end2 _ _ yb4 (by decide)) (fun _=>ya4 (fun _=> ?_) (fun _=>ya4 (fun _=>⟨V.stk,V.pls,V.inp,V.tms,V.acs,V.lts,V.mds,V.now,V.nt,V.na⟩) (fun _=>⟨V.stk,V.pls,V.inp,V.tms,V.acs,V.lts,V.mds,V.now,V.nt,V.na⟩)))))));refine⟨V.stk,V.pls,V.inp,V.tms,V.acs,fun y A=> ?_,V.mds,V.now,V.nt,V.na⟩;rcases List.mem_append.1 A with A|A
 .exact V.lts y A
 .rw[List.mem_singleton.1 A]
  exact⟨ya7 B,C⟩
theorem yc7 (s:MS)(e:Ev):(hear s e).made=s.made/\(hear s e).now=s.now/\((hear s e).over=false->s.over=false):=by
 unfold hear
 repeat' split
 all_goals first|exact⟨rfl,rfl,fun h=>h⟩|exact⟨rfl,rfl,fun h=>by cases h⟩
theorem yjC {p:Img}(P:Pk p){s:MS}(V:Vs s)(M:Ml s)(e:Ev)(hw:e.v.wf){N:Nat}(hN:s.over=false->pot s<=N)(hb:s.made.length+(p.code.length+1)*(N+2)<4611686018427387904):
  Vs (yah p s e).2/\Ml (yah p s e).2/\∃l,(yah p s e).2.made=s.made++l/\l.length<=(p.code.length+1)*(N+2)/\((yah p s e).1≠0->l=[])/\∀c∈l,c.time=e.time:=by
 have D:Vs s/\Ml s/\∃l:List Cm,s.made=s.made++l/\l.length<=(p.code.length+1)*(N+2)/\(∀k:Int,k≠0->l=[])/\∀c∈l,c.time=e.time:=⟨V,M,[],by rw[List.append_nil],znq _,fun _ _=>rfl,fun c B=>by cases B⟩;unfold yah;split
 .obtain⟨K,J,l,I,H,G,F⟩:=D
  exact⟨K,J,l,I,H,G _,F⟩
 .rename_i B
  have E:yaf e=0:=by
   by_cases h:yaf e=0
   .exact h
   .exact absurd (.inl h) B
  split
  .obtain⟨K,J,l,I,H,G,F⟩:=D
   exact⟨K,J,l,I,H,G _,F⟩
  .rename_i L
   have L:s.over=false:=by simpa using L
   split
   .obtain⟨K,J,l,I,H,G,F⟩:=D
    exact⟨K,J,l,I,H,G _,F⟩
   .obtain⟨s0,A⟩:∃s0:MS,s0={s with now:=e.time,steps:=0,events:=s.events+1}:=⟨_,rfl⟩
    rw[<-A];have a:Vs s0:=by rw[A];exact⟨V.stk,V.pls,V.inp,V.tms,V.acs,V.lts,V.mds,(ya0 E).1,V.nt,V.na⟩
    have C:s0.made=s.made:=by rw[A]
    have Q:s0.now=e.time:=by rw[A]
    have W:pot s0=pot s:=by rw[A];rfl
    obtain⟨O,Y,g⟩:=yc7 s0 e;have Z:=a.hear E hw;have b:Ml (hear s0 e):=⟨fun c B=>by rw[O,C]at B;exact M.last c B,fun _ c B=>by rw[O,C]at B;exact M.all L c B⟩;have f:=(ydK s0 e).1;have X:fuel p (hear s0 e)<=(p.code.length+1)*(N+2):=Nat.mul_le_mul_left _ (by have:=hN L;omega);obtain⟨U,T,l,S,d,R⟩:=yid P (fuel p (hear s0 e)) (hear s0 e) Z b (by rw[O,C];omega);exact⟨U,T,l,by show(ya1 p _ _).made=_;rw[S,O,C],by omega,fun h=>absurd rfl h,fun c B=>by rw[R c B,Y,Q]⟩
theorem vs0 {p:Img}:Vs (ms0 p):=⟨fun x hx=>(by cases hx),fun x hx=>(by rw[List.eq_of_mem_replicate hx];exact yb4),yb4,fun x hx=>(by cases hx),fun x hx=>(by cases hx),fun x hx=>(by cases hx),fun x hx=>(by cases hx),⟨Int.le_refl _,by show(0:Int)<=4611686018427387903;decide⟩,⟨Int.le_refl _,Int.le_refl _⟩,⟨Int.le_refl _,Int.le_refl _⟩⟩
theorem ml0 {p:Img}:Ml (ms0 p):=⟨fun x hx=>(by cases hx),fun _ x hx=>(by cases hx)⟩
def yg9 (now ticks:Int):Int:=if now<0\/ticks<0 then 0 else if 4611686018427387903<=now\/4611686018427387903 - now<ticks then 4611686018427387903 else now+ticks
def evOfC (c:Cm):Ev:=
 if c.kind=1 then⟨0,c.time,11,c.a,yg9 c.time c.b,⟨#[]⟩,⟨#[]⟩,yag⟩else
 if c.kind=2 then⟨0,c.time,13,c.a,0,⟨#[]⟩,⟨#[]⟩,yag⟩else
 if c.kind=3 then⟨0,c.time,7,c.a,c.b,c.name,⟨#[]⟩,yaa c.v⟩else
 if c.kind=4 then⟨0,c.time,16,0,0,⟨#[]⟩,⟨#[]⟩,yaa c.v⟩else
 if c.kind=5 then⟨0,c.time,17,0,0,c.name,⟨#[]⟩,yag⟩else
 if c.kind=6 then⟨0,c.time,21,0,0,⟨#[]⟩,⟨#[]⟩,yaa c.v⟩else⟨0,c.time,0,0,0,⟨#[]⟩,⟨#[]⟩,yag⟩
def ykJ (c:Cm)(e:Ev):Bool:=
 let w:=evOfC c
 (w.kind !=0)&&((w.time==e.time)&&((w.kind==e.kind)&&((w.a==e.a)&&(((bif w.kind==21 then e.b else w.b)==e.b)&&(decide (w.name=e.name)&&(decide (w.text=e.text)&&(cmpV w.v e.v==0)))))))
def ybd (k:Int):Bool:=decide (k=11\/k=13\/k=7\/k=16\/k=17\/k=21)
def yaG (k:Int):Bool:=decide (16<=k/\k<=21)
structure RP where
 m:MS
 seen:Nat
 next:Nat
 fired:List Int
 closed:Bool
 err:Int
def ybe (fired:List Int)(c:Cm):Bool:=(c.kind==2)&&decide (c.a∈fired)
def yfv (fired:List Int):List Cm->Nat->Nat
 |[],n=>n
 |c::r,n=>bif ybe fired c then yfv fired r (n+1)else n
def ymx (p:Img)(r:RP)(e:Ev):Int×RP:=
 if yaf e≠0 then(9,r)else
 if e.id≠(r.seen:Int)+1 then(180,r)else
 if r.closed=true then(181,r)else
 if(r.seen=0/\e.kind≠1)\/(r.seen≠0/\e.kind=1)then(7,r)else
 if yaH e.kind=true then(0,{r with m:=(yah p r.m e).2,seen:=r.seen+1,fired:=if e.kind=12 then e.a::r.fired else r.fired,closed:=yaG e.kind})else
 if ybd e.kind=true then
  let n:=yfv r.fired (r.m.made.drop r.next) r.next
  match r.m.made[n]? with
  |none=>(150,{r with seen:=r.seen+1,next:=n})
  |some c=>if ykJ c e=true then(0,{r with seen:=r.seen+1,next:=n+1,closed:=yaG e.kind})else(150,{r with seen:=r.seen+1,next:=n})
 else(0,{r with seen:=r.seen+1,closed:=yaG e.kind})
def ycQ (p:Img):RP->List Ev->RP
 |r,[]=>r
 |r,e::l=>bif r.err !=0 then r else ycQ p {(ymx p r e).2 with err:=(ymx p r e).1} l
def rp0 (p:Img):RP:=⟨ms0 p,0,0,[],false,0⟩
def ypw (r:RP):List Cm:=bif (r.err !=0)||r.closed then[]else(r.m.made.drop r.next).filter (fun c=> !ybe r.fired c)
def yfW (r:RP)(e:Ev):Int:=
 if yaf e≠0 then 9 else if e.id≠(r.seen:Int)+1 then 180 else if r.closed=true then 181 else if(r.seen=0/\e.kind≠1)\/(r.seen≠0/\e.kind=1)then 7 else 0
def opn (s:MS):Nat:=s.timers.list.length+s.acts.list.length
def LmR (s s':MS):Prop:=(opn s<=64->opn s'<=64)/\s'.letters.length<=s.letters.length
theorem LmR.same {s s':MS}(h1:s'.timers.list=s.timers.list)(h2:s'.acts.list=s.acts.list)(h3:s'.letters=s.letters):LmR s s':=by
 unfold LmR opn;rw[h1,h2,h3];exact⟨fun h=>h,znc _⟩
theorem LmR.nxt {s a:MS}(h:LmR s a):LmR s a.nxt:=h
theorem LmR.same2 {a s s':MS}(h:LmR a s)(h1:s'.timers.list=s.timers.list)(h2:s'.acts.list=s.acts.list)(h3:s'.letters=s.letters):LmR a s':=by
 unfold LmR opn at h|-;rw[h1,h2,h3];exact h
theorem LmR.put (s:MS)(v:Val):LmR s (s.put v):=by
 unfold MS.put;split<;>exact LmR.same rfl rfl rfl
theorem LmR.arith (s:MS)(op:Int)(a b:Val):LmR s (s.arith op a b):=by
 unfold MS.arith;split<;>exact LmR.same rfl rfl rfl
theorem ybz {s a b:MS}{c:Prop}[Decidable c](ha:LmR s a)(hb:LmR s b):LmR s (if c then a else b):=by
 split
 .exact ha
 .exact hb
theorem LmR.two (s:MS)(op:Int)(a b:Val):LmR s (s.two op a b):=by
 unfold MS.two;exact ybz (LmR.same rfl rfl rfl) (ybz (LmR.same rfl rfl rfl) (ybz (ybz (LmR.same rfl rfl rfl) (LmR.same rfl rfl rfl)) (ybz (ybz (LmR.put _ _) (ybz (LmR.put _ _) (LmR.same rfl rfl rfl))) (LmR.arith _ _ _ _))))
theorem LmR.reckon (s:MS)(op:Int)(k:Nat):LmR s (s.reckon op k):=by
 unfold MS.reckon;exact ybz (LmR.put {s with stk:=s.stk.take (s.stk.length - k)} _) (ybz (LmR.same rfl rfl rfl) (ybz (ybz (LmR.same rfl rfl rfl) (ybz (LmR.same rfl rfl rfl) (LmR.same rfl rfl rfl))) (LmR.two s.pop.pop _ _ _)))
theorem LmR.begin_ (s:MS)(op:Int)(name:ByteArray):LmR s (s.begin_ op name):=by
 unfold MS.begin_;dsimp only;split
 .split
  .exact LmR.same rfl rfl rfl
  .rename_i i _
   have C:=List.length_eraseIdx_le s.timers.list i;have A:LmR s {s.pop with timers:=⟨s.timers.list.eraseIdx i,s.timers.next⟩}:=⟨fun h=>by have h:s.timers.list.length+s.acts.list.length<=64:=h;show(s.timers.list.eraseIdx i).length+s.acts.list.length<=64;omega,znc _⟩;cases(s.timers.list[i]?.getD ⟨0,false,yag,0⟩).over<;>exact A
 .split
  .exact LmR.same rfl rfl rfl
  .split
   .exact LmR.same rfl rfl rfl
   .rename_i B
    split
    .refine⟨fun _=> ?_,znc _⟩
     show s.timers.list.length+(s.acts.list++[_]).length<=64;rw[znk,zmh];omega
    .refine⟨fun _=> ?_,znc _⟩
     show(s.timers.list++[_]).length+s.acts.list.length<=64;rw[znk,zmh];omega
theorem LmR.wait {s s':MS}{op:Int}{name:ByteArray}(h:s.wait op name=some s'):LmR s s':=by
 have A:∀i,LmR s (s.openL i):=fun i=>⟨fun h=>h,List.length_eraseIdx_le _ _⟩;unfold MS.wait at h;split at h
 .cases hf:yao name s.letters with
  |none=>rw[hf]at h;cases h
  |some i=>rw[hf]at h;cases h;exact A i
 .dsimp only at h
  split at h
  .cases h;exact LmR.same rfl rfl rfl
  .split at h
   .rename_i k _
    cases h;exact A k
   .rename_i i _ _ _
    cases hov:((if op=21 then s.acts.list else s.timers.list)[i]?.getD ⟨0,false,yag,0⟩).over with
    |false=>rw[hov]at h;cases h
    |true=>
     rw[hov]at h;simp only[Bool.not_true,znl,Option.some.injEq]at h;have B:LmR s (if op=21 then{s.pop with acts:=⟨(if op=21 then s.acts.list else s.timers.list).eraseIdx i,s.acts.next⟩}else{s.pop with timers:=⟨(if op=21 then s.acts.list else s.timers.list).eraseIdx i,s.timers.next⟩}):=by
      have E:=List.length_eraseIdx_le s.timers.list i;have D:=List.length_eraseIdx_le s.acts.list i;split
      .rename_i C
       refine⟨fun h=> ?_,znc _⟩;have h:s.timers.list.length+s.acts.list.length<=64:=h;show s.timers.list.length+(s.acts.list.eraseIdx i).length<=64;omega
      .rename_i C
       refine⟨fun h=> ?_,znc _⟩;have h:s.timers.list.length+s.acts.list.length<=64:=h;show(s.timers.list.eraseIdx i).length+s.acts.list.length<=64;omega
     rw[<-h];exact LmR.nxt (ybz (LmR.same2 B rfl rfl rfl) (ybz (LmR.same2 B rfl rfl rfl) (LmR.same2 B rfl rfl rfl)))
theorem LmR.end_ (s:MS)(op:Int)(name:ByteArray):LmR s (s.end_ op name):=by
 unfold MS.end_;exact ybz (LmR.same rfl rfl rfl) (ybz (LmR.same rfl rfl rfl) (LmR.same rfl rfl rfl))
theorem LmR.go (s:MS)(p:Img)(op:Int)(k:Nat):LmR s (s.go p op k):=by
 unfold MS.go;dsimp only
 repeat' (first|exact LmR.begin_ _ _ _|exact LmR.reckon _ _ _|refine ybz ?_ ?_)
 all_goals try(cases yao (p.names[k]?.getD ⟨#[]⟩) s.letters)
 all_goals first|exact LmR.same rfl rfl rfl|exact LmR.begin_ _ _ _|exact LmR.reckon _ _ _|exact⟨fun h=>h,List.length_eraseIdx_le _ _⟩
theorem LmR.step {p:Img}{s s':MS}(h:yal p s=some s'):LmR s s':=by
 unfold yal at h;dsimp only at h;cases hb:(ofL (p.code[s.at_]?.getD ⟨0,0⟩).op).1.blocks with
 |true=>rw[hb]at h;exact LmR.wait h
 |false=>
  rw[hb]at h;simp only[znl]at h;cases he:(ofL (p.code[s.at_]?.getD ⟨0,0⟩).op).1.ends with
  |true=>rw[he]at h;cases h;exact LmR.end_ _ _ _
  |false=>
   rw[he]at h;simp only[znl]at h;cases hf:(ofL (p.code[s.at_]?.getD ⟨0,0⟩).op).1.flow with
   |true=>
    rw[hf]at h;cases h;cases((p.code[s.at_]?.getD ⟨0,0⟩).op==11)
    .cases ycm s.top<;>exact LmR.same rfl rfl rfl
    .exact LmR.same rfl rfl rfl
   |false=>
    rw[hf]at h;cases h;exact LmR.go s.nxt _ _ _
theorem ycq {x:Val}(h:Okv x):szV x<=20000:=by
 have B:=ygK h.1;have A:=ydV x;omega
theorem ymy {x:Val}(h:Okv x)(hk:x.kind=2):x.txt.size<=256:=by
 cases x with
 |mk k n s l=>
  have hk:k=2:=hk;subst hk;have A:=(ybr.1 h.1).1;rw[yan]at A;have A:(bif decide (256<s.size)then(2:Int)else 0)=0:=A;show s.size<=256;by_cases e:256<s.size
  .rw[zno e]at A;cases A
  .omega
theorem ye1:∀l k:List Val,szV.szL (l++k)=szV.szL l+szV.szL k
 |[],k=>by rw[List.nil_append,szV.szL];omega
 |x::l,k=>by rw[List.cons_append,szV.szL,szV.szL,ye1 l k];omega
theorem ymz {x:Val}(h:Okv x)(hk:x.kind=3):szV.szL x.list<=20000:=by
 have A:=ycq h;rw[ycX,show(x.kind==2)=false by rw[hk];rfl,show(x.kind==3)=true by rw[hk];rfl]at A;simp only[znm,znl]at A;omega
structure Rk (p:Img)(s:MS):Prop where
 vs:Vs s
 opn:opn s<=64
 pls:(s.places.length:Int)=p.places
theorem Rk.steps {p:Img}{s:MS}(R:Rk p s)(k:Nat):Rk p {s with steps:=k}:=⟨⟨R.vs.stk,R.vs.pls,R.vs.inp,R.vs.tms,R.vs.acs,R.vs.lts,R.vs.mds,R.vs.now,R.vs.nt,R.vs.na⟩,R.opn,R.pls⟩
theorem Rk.step {p:Img}(P:Pk p){s s':MS}(R:Rk p s)(hm:s.made.length<4611686018427387904)(h:yal p s=some s'):Rk p s':=⟨R.vs.step P hm h,(LmR.step h).1 R.opn,by rw[(ybM h).places];exact R.pls⟩
theorem ybV (p:Img)(s:MS)(e:Ev):((yah p s e).1≠0/\(yah p s e).2=s)\/(yaf e=0/\yaH e.kind=true/\s.over=false/\¬s.begun=(e.kind==1)/\yah p s e=(0,ym0 p (hear {s with now:=e.time,steps:=0,events:=s.events+1} e))):=by
 unfold yah;by_cases h1:yaf e≠0\/yaH e.kind=false
 .rw[if_pos h1];exact .inl ⟨(show(9:Int)≠0 from by decide),rfl⟩
 .rw[if_neg h1]
  by_cases h2:s.over=true
  .rw[if_pos h2];exact .inl ⟨(show(181:Int)≠0 from by decide),rfl⟩
  .rw[if_neg h2]
   by_cases h3:s.begun=(e.kind==1)
   .rw[if_pos h3];exact .inl ⟨(show(7:Int)≠0 from by decide),rfl⟩
   .rw[if_neg h3]
    refine .inr ⟨?_,?_,by simpa using h2,h3,rfl⟩
    .by_cases h:yaf e=0
     .exact h
     .exact absurd (.inl h) h1
    .cases h:yaH e.kind with
     |true=>rfl
     |false=>exact absurd (.inr h) h1
theorem yfN (id how:Int)(v:Val):∀l:List Th,(ycw id how v l).length=l.length
 |[]=>rfl
 |x::r=>by
  rw[ycw];split
  .cases x.over<;>rfl
  .rw[List.length_cons,List.length_cons,yfN id how v r]
theorem yiv (s:MS)(e:Ev):opn (hear s e)=opn s/\(hear s e).places=s.places:=by
 unfold hear opn
 repeat' split
 all_goals first|exact⟨rfl,rfl⟩|exact⟨by show(ycw _ _ _ s.timers.list).length+s.acts.list.length=_;rw[yfN],rfl⟩|exact⟨by show s.timers.list.length+(ycw _ _ _ s.acts.list).length=_;rw[yfN],rfl⟩
theorem yha {p:Img}:∀(f:Nat) (s:MS),opn s<=64->opn (ya1 p f s)<=64/\(ya1 p f s).places.length=s.places.length
 |0,_,h=>⟨h,rfl⟩
 |f+1,s,h=>by
  rw[ya1];cases s.over with
  |true=>exact⟨h,rfl⟩
  |false=>
   simp only[znl];cases hs:yal p s with
   |none=>exact⟨h,rfl⟩
   |some s'=>
    obtain⟨i1,i2⟩:=yha f {s' with steps:=s'.steps+1} ((LmR.step hs).1 h);exact⟨i1,i2.trans (ybM hs).places⟩
structure St (p:Img)(fa:Fa)(s:MS):Prop where
 good:Good p fa s
 rk:Rk p s
 ml:Ml s
 bd:s.made.length<=20000*s.events
theorem St.zero {p:Img}{fa:Fa}(K:Known p fa)(hp:0<=p.places):St p fa (ms0 p):=
 ⟨ypL K,⟨vs0,znq _,by show((List.replicate p.places.toNat yag).length:Int)=p.places;rw[List.length_replicate];omega⟩,ml0,znq _⟩
theorem yjZ {p:Img}{fa:Fa}(K:Known p fa){s:MS}(S:St p fa s)(he:s.events<=30):s.made.length+(p.code.length+1)*(s.events+2)<=700000:=by
 have C:=(ybE K.img).2.1;have B:=S.bd;have A:(p.code.length+1)*(s.events+2)<=513*32:=Nat.mul_le_mul (by omega) (by omega);omega
theorem St.apply {p:Img}{fa:Fa}(K:Known p fa)(P:Pk p)(hsp:fa.span<=p.code.length+1){s:MS}(S:St p fa s)(e:Ev)(hw:e.v.wf)(he:s.events<=30):St p fa (yah p s e).2/\(yah p s e).2.events<=s.events+1:=by
 have M:=yjZ K S he;obtain⟨L,J,l,I,V,U,T⟩:=yjC P S.rk.vs S.ml e hw (N:=s.events) S.good.pot (by omega);have H:=yjD K hsp S.good e;rcases ybV p s e with⟨_,C⟩|⟨_,_,O,_,C⟩
 .rw[C]
  exact⟨S,Nat.le_succ _⟩
 .obtain⟨s1,D⟩:∃s1,hear {s with now:=e.time,steps:=0,events:=s.events+1} e=s1:=⟨_,rfl⟩
  have B:=yiv {s with now:=e.time,steps:=0,events:=s.events+1} e;have F:=ydK {s with now:=e.time,steps:=0,events:=s.events+1} e;rw[D]at C B F;have E:(yah p s e).2=ym0 p s1:=by rw[C]
  have hk:=(yfA p (fuel p s1) s1).1;have A:(yah p s e).2.events=s.events+1:=by rw[E];exact hk.trans F.2.1
  refine⟨⟨H,⟨L,?_,?_⟩,J,?_⟩,Nat.le_of_eq A⟩
  .rw[E]
   exact(yha (fuel p s1) s1 (by rw[B.1];exact S.rk.opn)).1
  .rw[E]
   have G:=(yha (p:=p) (fuel p s1) s1 (by rw[B.1];exact S.rk.opn)).2;show((ya1 p (fuel p s1) s1).places.length:Int)=p.places;rw[G,B.2];exact S.rk.pls
  .rw[I,A,znk]
   have R:=S.bd;have Q:(p.code.length+1)*(s.events+2)<=513*32:=Nat.mul_le_mul (by have:=(ybE K.img).2.1;omega) (by omega);omega
theorem yoU {n:ByteArray}(h:n.size=0):n=⟨#[]⟩:=by
 apply ByteArray.ext;exact Array.eq_empty_of_size_eq_zero h
theorem yfS {c:Cm}(h:yaX c=0):(0<=c.time/\c.time<=4611686018427387903)/\0<=c.a/\0<=c.b/\c.name.size<=64/\checkL c.v=0/\((c.kind=1/\c.name=⟨#[]⟩/\c.v.kind=0)\/(c.kind=2/\c.b=0/\c.name=⟨#[]⟩/\c.v.kind=0)\/c.kind=3\/(c.kind=4/\c.a=0/\c.b=0/\c.name=⟨#[]⟩)\/(c.kind=5/\c.a=0/\c.b=0/\c.v.kind=0)\/(c.kind=6/\c.a=0/\c.b=0/\c.name=⟨#[]⟩)):=by
 unfold yaX at h;cases hk:yk1 c.kind with
 |none=>rw[hk]at h;cases h
 |some q=>
  obtain⟨N,M,L,K⟩:=q;rw[hk]at h;dsimp only at h;split at h
  .cases h
  .rename_i A
   split at h
   .cases h
   .rename_i J
    split at h
    .cases h
    .rename_i E
     have D:N=false->c.a=0:=fun e=>Decidable.byContradiction fun n=>A (.inr (.inr (.inr (.inr (.inl ⟨e,n⟩)))));have C:M=false->c.b=0:=fun e=>Decidable.byContradiction fun n=>A (.inr (.inr (.inr (.inr (.inr ⟨e,n⟩)))));have B:L=false->c.name=⟨#[]⟩:=fun e=>yoU (Decidable.byContradiction fun n=>E (.inl ⟨e,n⟩));have hv:K=false->c.v.kind=0:=fun e=>Decidable.byContradiction fun n=>E (.inr ⟨e,n⟩);have I:¬c.time<0:=fun e=>A (.inl e);have H:¬4611686018427387903<c.time:=fun e=>A (.inr (.inl e));have G:¬c.a<0:=fun e=>A (.inr (.inr (.inl e)));have F:¬c.b<0:=fun e=>A (.inr (.inr (.inr (.inl e))));refine⟨⟨by omega,by omega⟩,by omega,by omega,by omega,h,?_⟩;clear A J E I H G F h;unfold yk1 at hk;split at hk
     .rename_i e
      cases hk;exact .inl ⟨e,B rfl,hv rfl⟩
     .split at hk
      .rename_i e
       cases hk;exact .inr (.inl ⟨e,C rfl,B rfl,hv rfl⟩)
      .split at hk
       .rename_i e
        exact .inr (.inr (.inl e))
       .split at hk
        .rename_i e
         cases hk;rcases e with e|e
         .exact .inr (.inr (.inr (.inl ⟨e,D rfl,C rfl,B rfl⟩)))
         .exact .inr (.inr (.inr (.inr (.inr ⟨e,D rfl,C rfl,B rfl⟩))))
        .split at hk
         .rename_i e
          cases hk;exact .inr (.inr (.inr (.inr (.inl ⟨e,D rfl,C rfl,hv rfl⟩))))
         .cases hk
set_option linter.unusedVariables false
theorem yj5 (p:Img):∀(f:Nat) (s:MS),∃k,(ya1 p f s).made=s.made++k
 |0,s=>⟨[],by rw[List.append_nil];rfl⟩
 |f+1,s=>by
  rw[ya1];cases s.over with
  |true=>exact⟨[],(List.append_nil _).symm⟩
  |false=>
   simp only[znl];cases hs:yal p s with
   |none=>exact⟨[],(List.append_nil _).symm⟩
   |some s'=>
    obtain⟨l,h1,_⟩:=MdR.step hs;obtain⟨k,A⟩:=yj5 p f {s' with steps:=s'.steps+1};exact⟨l++k,by dsimp only;rw[A,<-List.append_assoc,<-h1]⟩
theorem yeH (p:Img)(s:MS)(e:Ev):∃k,(yah p s e).2.made=s.made++k:=by
 rcases ybV p s e with⟨_,h⟩|⟨_,_,_,_,h⟩
 .rw[h];exact⟨[],(List.append_nil _).symm⟩
 .rw[h]
  obtain⟨k,hk⟩:=yj5 p (fuel p (hear {s with now:=e.time,steps:=0,events:=s.events+1} e)) (hear {s with now:=e.time,steps:=0,events:=s.events+1} e);exact⟨k,by show(ya1 p _ _).made=_;rw[hk,(yc7 _ _).1]⟩
def yau (l:List Ev):List Ev:=l.filter (fun e=>yaH e.kind)
def yaT (l:List Ev):List Ev:=l.filter (fun e=>ybd e.kind)
theorem ybf (a b:List Ev):yau (a++b)=yau a++yau b:=List.filter_append ..
theorem ybK (a b:List Ev):yaT (a++b)=yaT a++yaT b:=List.filter_append ..
theorem yih {k:Int}(h:yaH k=true):ybd k=false:=by
 unfold ybd;have:=out_kinds2 h;exact znd (by omega)
where out_kinds2 {k:Int} (h:yaH k=true):k=1\/k=8\/k=9\/k=10\/k=12\/k=14\/k=15\/k=19\/k=20:=znx h
theorem yc4 {k:Int}(h:ybd k=true):yaH k=false:=by
 cases ho:yaH k with
 |false=>rfl
 |true=>rw[yih ho]at h;cases h
def ycv (p:Img)(s:MS)(l:List Ev):MS:=l.foldl (fun s e=>(yah p s e).2) s
theorem ygu (p:Img)(s:MS)(a b:List Ev):ycv p s (a++b)=ycv p (ycv p s a) b:=List.foldl_append ..
def NL (F:List Int)(l:List Cm):List Cm:=l.filter (fun c=> !ybe F c)
theorem yfq (F:List Int)(a b:List Cm):NL F (a++b)=NL F a++NL F b:=List.filter_append ..
theorem ypb (F:List Int):NL F []=[]:=rfl
theorem yds (F:List Int)(c:Cm)(l:List Cm):NL F (c::l)=bif ybe F c then NL F l else c::NL F l:=by
 unfold NL;rw[List.filter_cons];cases ybe F c<;>rfl
def yap (e:Ev):Ev:={e with id:=0,b:=if e.kind=21 then 0 else e.b,v:=yaa e.v}
theorem yfk:yaa yag=yag:=by rw[ybU];rfl
theorem yht (c:Cm):yap (evOfC c)=evOfC c:=by
 unfold yap evOfC
 repeat' split
 all_goals first|rfl|(simp only[yaY,yfk];done)|(exfalso;simp_all;done)|(simp_all [yaY,yfk];done)
theorem yff (c:Cm):evOfC {c with v:=yaa c.v}=evOfC c:=by
 unfold evOfC;simp only[yaY]
theorem ymb (c:Cm)(x:Ev)(hk:ybd x.kind=true):ykJ c x=true↔yap x=evOfC c:=by
 have A:=yht c;constructor
 .intro h
  unfold ykJ at h;simp only[Bool.and_eq_true,bne_iff_ne,ne_eq,beq_iff_eq,decide_eq_true_eq]at h;obtain⟨G,L,K,J,F,I,H,C⟩:=h;have C:yaa (evOfC c).v=yaa x.v:=(ydc _ _).1 C;have hv:yaa (evOfC c).v=(evOfC c).v:=congrArg Ev.v A;have B:(0:Int)=(evOfC c).id:=congrArg Ev.id A;have E:(if(evOfC c).kind=21 then 0 else(evOfC c).b)=(evOfC c).b:=congrArg Ev.b A;rw[C]at hv;obtain⟨R,O,Q,T,S,P,M,N⟩:=x;generalize evOfC c=w at*;obtain⟨Y,W,D,a,Z,X,U,V⟩:=w;dsimp only at*;subst L K J I H B;unfold yap;dsimp only;rw[hv]
  congr 1
  by_cases hk2:D=21
  .rw[if_pos hk2]at E|-;exact E
  .rw[if_neg hk2]
   have e:(D==21)=false:=by rw[zna];exact hk2
   rw[e,znl]at F;exact F.symm
 .intro h
  unfold ykJ;rw[<-h];unfold yap;have G:x.kind≠0:=fun e=>by rw[e]at hk;exact absurd hk (by decide)
  simp only[Bool.and_eq_true,bne_iff_ne,ne_eq,beq_iff_eq,decide_eq_true_eq];refine⟨G,trivial,trivial,trivial,?_,trivial,trivial,?_⟩
  .by_cases hk2:x.kind=21
   .rw[show(x.kind==21)=true by rw[beq_iff_eq];exact hk2];rfl
   .rw[show(x.kind==21)=false by rw[zna];exact hk2,znl,if_neg hk2]
  .rw[ydc,yaY]
theorem yfK {p:Img}{r:RP}(h:r.err≠0):∀l,ycQ p r l=r
 |[]=>rfl
 |e::l=>by
  rw[ycQ,show(r.err !=0)=true by simpa using h];rfl
theorem yfJ {p:Img}{r:RP}(h:r.err=0)(e:Ev)(l:List Ev):ycQ p r (e::l)=ycQ p {(ymx p r e).2 with err:=(ymx p r e).1} l:=by
 rw[ycQ,show(r.err !=0)=false by simpa using h];rfl
theorem yiz (p:Img):∀(a:List Ev) (r:RP) (b:List Ev),ycQ p r (a++b)=ycQ p (ycQ p r a) b
 |[],_,_=>rfl
 |e::a,r,b=>by
  by_cases h:r.err=0
  .rw[List.cons_append,yfJ h,yfJ h]
   exact yiz p a _ b
  .rw[yfK h,yfK h,yfK h]
theorem yjL {r:RP}{e:Ev}(h0:yaf e=0)(h1:e.id=(r.seen:Int)+1)(h2:r.closed=false)(h3:(r.seen=0↔e.kind=1)):yfW r e=0:=by
 unfold yfW;rw[if_neg (by simpa using h0),if_neg (by simpa using h1),if_neg (by rw[h2];decide),if_neg (by omega)]
theorem yiN {r:RP}{e:Ev}(h:yfW r e=0):yaf e=0/\e.id=(r.seen:Int)+1/\r.closed=false/\(r.seen=0↔e.kind=1):=by
 unfold yfW at h;split at h
 .cases h
 .split at h
  .cases h
  .split at h
   .cases h
   .split at h
    .cases h
    .rename_i C B A D
     exact⟨by simpa using C,by simpa using B,by simpa using A,by omega⟩
set_option linter.unusedVariables false in
theorem yij {p:Img}{r:RP}{e:Ev}(h:yfW r e=0):ymx p r e=
  (if yaH e.kind=true then((0:Int),{r with m:=(yah p r.m e).2,seen:=r.seen+1,fired:=if e.kind=12 then e.a::r.fired else r.fired,closed:=yaG e.kind})else
  if ybd e.kind=true then
   match r.m.made[yfv r.fired (r.m.made.drop r.next) r.next]? with
   |none=>(150,{r with seen:=r.seen+1,next:=yfv r.fired (r.m.made.drop r.next) r.next})
   |some c=>if ykJ c e=true then(0,{r with seen:=r.seen+1,next:=yfv r.fired (r.m.made.drop r.next) r.next+1,closed:=yaG e.kind})else(150,{r with seen:=r.seen+1,next:=yfv r.fired (r.m.made.drop r.next) r.next})
  else(0,{r with seen:=r.seen+1,closed:=yaG e.kind}):Int×RP):=by
 obtain⟨C,B,A,D⟩:=yiN h;unfold ymx;rw[if_neg (by simpa using C),if_neg (by simpa using B),if_neg (by rw[A];decide),if_neg (by omega)]
 try rfl
theorem yib (F:List Int):∀(l:List Cm) (n:Nat),∃a b,l=a++b/\yfv F l n=n+a.length/\NL F a=[]/\(b=[]\/∃c r,b=c::r/\ybe F c=false)
 |[],n=>⟨[],[],rfl,rfl,rfl,.inl rfl⟩
 |c::l,n=>by
  cases hc:ybe F c with
  |false=>exact⟨[],c::l,rfl,by rw[yfv,hc];rfl,rfl,.inr ⟨c,l,rfl,hc⟩⟩
  |true=>
   obtain⟨a,b,h1,h2,h3,h4⟩:=yib F l (n+1);refine⟨c::a,b,by rw[h1];rfl,?_,?_,h4⟩
   .rw[yfv,hc,znm,h2,List.length_cons];omega
   .rw[yds,hc];exact h3
theorem ylZ {F G:List Int}{c:Cm}(h:∀a,a∈F↔a∈G):ybe F c=ybe G c:=by
 unfold ybe;rw[show decide (c.a∈F)=decide (c.a∈G)from decide_eq_decide.2 (h c.a)]
theorem ylg {F G:List Int}(h:∀a,a∈F↔a∈G)(l:List Cm):NL F l=NL G l:=by
 unfold NL
 congr 1
 funext c
 rw[ylZ h]
structure HI (p:Img)(l:List Ev)(r:RP):Prop where
 fed:ycQ p (rp0 p) l=r
 err:r.err=0
 seen:r.seen=l.length
 mach:r.m=ycv p (ms0 p) (yau l)
 fired:∀a,a∈r.fired↔∃e∈l,e.kind=12/\e.a=a
 closed:r.closed=(l.getLast?.map (fun e=>yaG e.kind)).getD false
 next:r.next<=r.m.made.length
 gone:∀e∈l,e.kind=13->e.a∉r.fired
 found:(yaT l).map yap=(NL r.fired (r.m.made.take r.next)).map evOfC
theorem ymD (p:Img):HI p [] (rp0 p):=⟨rfl,rfl,rfl,rfl,fun a=>⟨fun h=>(by cases h),fun⟨e,h,_⟩=>(by cases h)⟩,rfl,znq _,(fun e h=>by cases h),rfl⟩
theorem ykD {l:List Ev}{e:Ev}:((l++[e]).getLast?.map (fun e=>yaG e.kind)).getD false=yaG e.kind:=by
 rw[List.getLast?_concat];rfl
theorem ygz {p:Img}{l:List Ev}{r:RP}(H:ycQ p (rp0 p) l=r)(he:r.err=0)(e:Ev):ycQ p (rp0 p) (l++[e])={(ymx p r e).2 with err:=(ymx p r e).1}:=by
 rw[yiz,H,yfJ he];rfl
theorem HI.o {p:Img}{l:List Ev}{r:RP}(H:HI p l r){e:Ev}(hw:yfW r e=0)(ho:yaH e.kind=true)(hg:e.kind=12->∀c∈l,c.kind=13->c.a≠e.a):
  HI p (l++[e]) {r with m:=(yah p r.m e).2,seen:=r.seen+1,fired:=if e.kind=12 then e.a::r.fired else r.fired,closed:=yaG e.kind}:=by
 obtain⟨k,hk⟩:=yeH p r.m e;have M:((yah p r.m e).2.made).take r.next=r.m.made.take r.next:=by rw[hk,List.take_append_of_le_length H.next]
 have J:e.kind≠13:=fun h=>by rw[h]at ho;exact absurd ho (by decide)
 refine⟨?_,H.err,?_,?_,fun a=> ?_,ykD.symm,?_,?_,?_⟩
 .rw[ygz H.fed H.err,yij hw,if_pos ho]
  exact congrArg (fun z:Int=>({r with m:=(yah p r.m e).2,seen:=r.seen+1,fired:=if e.kind=12 then e.a::r.fired else r.fired,closed:=yaG e.kind,err:=z}:RP)) H.err.symm
 .rw[znk,<-H.seen];rfl
 .rw[ybf,ygu,<-H.mach,show yau [e]=[e] by unfold yau;rw[List.filter_cons,if_pos ho];rfl];rfl
 .dsimp only
  by_cases h12:e.kind=12
  .rw[if_pos h12,List.mem_cons,H.fired]
   constructor
   .rintro(h|⟨x,A,h⟩)
    .exact⟨e,List.mem_append_right _ (List.mem_singleton.2 rfl),h12,h.symm⟩
    .exact⟨x,List.mem_append_left _ A,h⟩
   .rintro⟨x,A,G,E⟩
    rcases List.mem_append.1 A with A|A
    .exact .inr ⟨x,A,G,E⟩
    .rw[List.mem_singleton.1 A]at E;exact .inl E.symm
  .rw[if_neg h12,H.fired]
   constructor
   .rintro⟨x,A,h⟩;exact⟨x,List.mem_append_left _ A,h⟩
   .rintro⟨x,A,G,E⟩
    rcases List.mem_append.1 A with A|A
    .exact⟨x,A,G,E⟩
    .rw[List.mem_singleton.1 A]at G;exact absurd G h12
 .show r.next<=((yah p r.m e).2.made).length
  rw[hk,znk];have:=H.next;omega
 .intro c D B
  have D:c∈l:=by
   rcases List.mem_append.1 D with D|D
   .exact D
   .rw[List.mem_singleton.1 D]at B;exact absurd B J
  dsimp only;by_cases h12:e.kind=12
  .rw[if_pos h12,List.mem_cons]
   rintro(h|h)
   .exact hg h12 c D B h
   .exact H.gone c D B h
  .rw[if_neg h12]
   exact H.gone c D B
 .dsimp only
  rw[ybK,show yaT [e]=[] by unfold yaT;rw[List.filter_cons,if_neg (by rw[yih ho];decide)];rfl,List.append_nil,M,H.found];by_cases h12:e.kind=12
  .rw[if_pos h12]
   congr 1
   apply List.filter_congr;intro c D;by_cases C:ybe r.fired c=true
   .have:ybe (e.a::r.fired) c=true:=by
     unfold ybe at C|-;rw[Bool.and_eq_true,decide_eq_true_iff]at C|-;exact⟨C.1,zme _ C.2⟩
    rw[C,this]
   .have C:ybe r.fired c=false:=by simpa using C
    have:ybe (e.a::r.fired) c=false:=by
     cases h:ybe (e.a::r.fired) c with
     |false=>rfl
     |true=>
      exfalso;unfold ybe at h C;rw[Bool.and_eq_true,decide_eq_true_iff,beq_iff_eq]at h;obtain⟨E,I⟩:=h;rw[show(c.kind==2)=true by rw[beq_iff_eq];exact E,Bool.true_and,znz]at C;have I:c.a=e.a:=(List.mem_cons.1 I).resolve_right C;have hm:evOfC c∈(yaT l).map yap:=by
       rw[H.found];refine List.mem_map_of_mem (List.mem_filter.2 ⟨D,?_⟩);unfold ybe;rw[show decide (c.a∈r.fired)=false from znd C,Bool.and_false];rfl
      obtain⟨x,A,F⟩:=List.mem_map.1 hm;have N:evOfC c=⟨0,c.time,13,c.a,0,⟨#[]⟩,⟨#[]⟩,yag⟩:=by unfold evOfC;rw[if_neg (by omega),if_pos E]
      rw[N]at F;have L:x.kind=13:=congrArg Ev.kind F;have K:x.a=c.a:=congrArg Ev.a F;exact hg h12 x (List.mem_filter.1 A).1 L (K.trans I)
    rw[C,this]
  .rw[if_neg h12]
theorem HI.made {p:Img}{l:List Ev}{r:RP}(H:HI p l r){e:Ev}(hw:yfW r e=0)(hm:ybd e.kind=true){c:Cm}{t:List Cm}(hn:NL r.fired (r.m.made.drop r.next)=c::t)(hf:yap e=evOfC c):
  ∃n,HI p (l++[e]) {r with seen:=r.seen+1,next:=n,closed:=yaG e.kind}/\NL r.fired (r.m.made.drop n)=t:=by
 have T:e.kind≠12:=fun h=>by rw[h]at hm;exact absurd hm (by decide)
 have U:=yc4 hm;obtain⟨a,b,I,S,R,N⟩:=yib r.fired (r.m.made.drop r.next) r.next;rcases N with rfl|⟨c',s,rfl,N⟩
 .rw[I,List.append_nil,R]at hn;cases hn
 rw[I,yfq,R,List.nil_append,yds,N,znl]at hn;obtain⟨rfl,W⟩:=List.cons.inj hn;have C:r.m.made=(r.m.made.take r.next++a)++c'::s:=by rw[List.append_assoc,<-I,List.take_append_drop]
 have E:(r.m.made.take r.next++a).length=r.next+a.length:=by rw[znk,List.length_take,Nat.min_eq_left H.next]
 have F:r.m.made[r.next+a.length]? =some c':=by
  rw[C,<-E,List.getElem?_append_right (znc _),Nat.sub_self];rfl
 obtain⟨J,G⟩:∃J,J=r.m.made.take r.next++a:=⟨_,rfl⟩;have D:r.m.made=J++c'::s:=by rw[G];exact C
 have K:J.length=r.next+a.length:=by rw[G];exact E
 have P:r.m.made.take (r.next+a.length+1)=(r.m.made.take r.next++a)++[c']:=by
  rw[<-G,D,<-K,List.take_append,zmj (Nat.le_succ _),show J.length+1 - J.length=1 by omega];rfl
 have Q:r.m.made.drop (r.next+a.length+1)=s:=by
  rw[D,<-K,<-List.drop_drop,List.drop_left];rfl
 refine⟨r.next+a.length+1,⟨?_,H.err,?_,?_,fun x=> ?_,ykD.symm,?_,?_,?_⟩,by rw[Q];exact W⟩
 .rw[ygz H.fed H.err,yij hw,if_neg (by rw[U];decide),if_pos hm,S,F]
  dsimp only;rw[if_pos ((ymb c' e hm).2 hf)];exact congrArg (fun z:Int=>({r with seen:=r.seen+1,next:=r.next+a.length+1,closed:=yaG e.kind,err:=z}:RP)) H.err.symm
 .rw[znk,<-H.seen];rfl
 .rw[ybf,show yau [e]=[] by unfold yau;rw[List.filter_cons,if_neg (by rw[U];decide)];rfl,List.append_nil];exact H.mach
 .rw[H.fired]
  constructor
  .rintro⟨x,B,h⟩;exact⟨x,List.mem_append_left _ B,h⟩
  .rintro⟨x,B,I,S⟩
   rcases List.mem_append.1 B with B|B
   .exact⟨x,B,I,S⟩
   .rw[List.mem_singleton.1 B]at I;exact absurd I T
 .show r.next+a.length+1<=r.m.made.length
  have:=(zge F).1;omega
 .intro x B hk
  rcases List.mem_append.1 B with B|B
  .exact H.gone x B hk
  .rw[List.mem_singleton.1 B]at hk|-
   have A:(yap e).kind=(evOfC c').kind:=congrArg Ev.kind hf;have O:(yap e).a=(evOfC c').a:=congrArg Ev.a hf;have A:e.kind=(evOfC c').kind:=A;have O:e.a=(evOfC c').a:=O;have M:c'.kind=2/\(evOfC c').a=c'.a:=by
    rw[hk]at A;unfold evOfC at A|-;split at A
    .cases A
    .split at A
     .rename_i X V
      exact⟨V,by rw[if_neg X,if_pos V]⟩
     .split at A
      .cases A
      .split at A
       .cases A
       .split at A
        .cases A
        .split at A
         .cases A
         .cases A
   intro L;rw[O,M.2]at L;have:ybe r.fired c'=true:=by
    unfold ybe;rw[Bool.and_eq_true,decide_eq_true_iff,beq_iff_eq];exact⟨M.1,L⟩
   rw[N]at this;cases this
 .dsimp only
  rw[ybK,show yaT [e]=[e] by unfold yaT;rw[List.filter_cons,if_pos hm];rfl,List.map_append,H.found,P,yfq,yfq,R,List.append_nil,yds,N,znl,List.map_append];show _=_++[evOfC c'];rw[<-hf];rfl
set_option linter.unusedVariables false
structure BK where
 list:List Ev
 over:Bool
def ydM (b:BK)(e:Ev):BK:=⟨b.list++[{e with id:=(b.list.length:Int)+1}],b.over||yaG e.kind⟩
def yep (l:List Ev)(a:Int):Bool:=l.any (fun e=>(e.kind==12)&&(e.a==a))
def yeS (l:List Ev)(a:Int):Bool:=l.any (fun e=>(e.kind==13)&&(e.a==a))
def evW (c:Cm):Ev:=if(evOfC c).kind=21 then{evOfC c with b:=2}else evOfC c
def yqo (most:Int):List Cm->Int->BK->BK
 |[],_,b=>b
 |c::r,i,b=>bif (i==most)||b.over then b else yqo most r (i+1) (bif (c.kind !=2)|| !yep b.list c.a then ydM b (evW c)else b)
def ypA (l:List Ev):Int:=(l.getLast?.map (·.time)).getD 0
def ypt (l:List Ev):Ev:=⟨0,ypA l,4,0,0,⟨#[]⟩,⟨#[]⟩,yag⟩
def rB (p:Img)(b:BK):RP:=ycQ p (rp0 p) b.list
def ypR (p:Img)(b:BK)(seen:Nat)(most:Int):Bool×BK:=
 bif (ycQ p (rp0 p) (b.list.take seen)).err !=0 then(false,b)else(true,yqo most (ypw (ycQ p (rp0 p) (b.list.take seen))) 0 (ydM b (ypt b.list)))
def yqu (last len:Nat)(y:Int):Nat:=max last (len - (max 0 (min y ((len:Int) - 1))).toNat)
theorem yiA (c:Cm):yap (evW c)=evOfC c:=by
 have h:=yht c;unfold evW;by_cases hk:(evOfC c).kind=21
 .rw[if_pos hk]
  unfold yap at h|-;rw[if_pos hk]at h;dsimp only;rw[if_pos hk];exact h
 .rw[if_neg hk];exact h
theorem yng (e:Ev)(n:Int):yap {e with id:=n}=yap e:=rfl
theorem yiB (c:Cm):(evW c).kind=(evOfC c).kind:=by unfold evW;split<;>rfl
theorem yiI {e:Ev}(h:yaf e=0){n:Int}(h1:1<=n)(h2:n<=1048576):yaf {e with id:=n}=0:=by
 have hk:=ya0 h;unfold yaf at h|-;dsimp only;split at h
 .cases h
 .rw[if_neg (by omega)]
  split at h
  .cases h
  .exact h
theorem ycF {e:Ev}{hA hB hN hT hV:Bool}(hh:ygA e.kind=some (hA,hB,hN,hT,hV))(hi:1<=e.id/\e.id<=1048576)(ht:0<=e.time/\e.time<=4611686018427387903)(ha:0<=e.a/\(hA=false->e.a=0))(hb:0<=e.b/\(hB=false->e.b=0))(hn:e.name.size<=64/\(hN=false->e.name.size=0))(hx:e.text.size<=128/\(hT=false->e.text.size=0))(hv:checkL e.v=0/\(hV=false->e.v.kind=0)):yaf e=0:=by
 unfold yaf;rw[hh];dsimp only;rw[if_neg (by omega),if_neg,if_neg (by omega),if_neg,if_neg]
 .exact hv.1
 .exact fun h=>h.2 (hv.2 h.1)
 .exact fun h=>h.elim (fun h=>h.2 (hn.2 h.1)) (fun h=>h.2 (hx.2 h.1))
 .rintro(h|h|h|h)
  .omega
  .omega
  .exact h.2 (ha.2 h.1)
  .exact h.2 (hb.2 h.1)
theorem yhE {c:Cm}(h:yaX c=0){n:Int}(h1:1<=n)(h2:n<=1048576):yaf {evW c with id:=n}=0/\ybd (evW c).kind=true/\(c.v.wf->(evW c).v.wf):=by
 obtain⟨⟨G,F⟩,I,Q,K,hv,hk⟩:=yfS h;have E:checkL (yaa c.v)=0:=by rw[yaz];exact hv
 have O:0<=yg9 c.time c.b:=by
  unfold yg9;split
  .decide
  .split
   .decide
   .omega
 have A:checkL yag=0:=yb9;have N:c.v.kind=0->(yaa c.v).kind=0:=fun e=>by rw[yaJ];exact e
 have D:(yaa c.v).wf\/¬c.v.wf:=by
  by_cases e:c.v.wf
  .exact .inl (ya9 _ e)
  .exact .inr e
 have C:yag.wf:=ydt;have M:(⟨#[]⟩:ByteArray).size=0:=rfl;have P:yag.kind=0:=rfl;rcases hk with⟨k,H,v0⟩|⟨k,J,H,v0⟩|k|⟨k,L,J,H⟩|⟨k,L,J,v0⟩|⟨k,L,J,H⟩
 .have e:evOfC c=⟨0,c.time,11,c.a,yg9 c.time c.b,⟨#[]⟩,⟨#[]⟩,yag⟩:=by unfold evOfC;rw[if_pos k]
  have B:evW c=evOfC c:=by unfold evW;rw[e];rfl
  rw[B,e];refine⟨?_,rfl,fun _=>C⟩;exact ycF (hA:=true) (hB:=true) (hN:=false) (hT:=false) (hV:=false) rfl ⟨h1,h2⟩ ⟨G,F⟩ ⟨I,(fun h=>by cases h)⟩ ⟨O,(fun h=>by cases h)⟩ ⟨(by show(⟨#[]⟩:ByteArray).size<=64;decide),(fun _=>rfl)⟩ ⟨by show(⟨#[]⟩:ByteArray).size<=128;decide,fun _=>rfl⟩ ⟨A,(fun _=>rfl)⟩
 .have e:evOfC c=⟨0,c.time,13,c.a,0,⟨#[]⟩,⟨#[]⟩,yag⟩:=by unfold evOfC;rw[if_neg (by omega),if_pos k]
  have B:evW c=evOfC c:=by unfold evW;rw[e];rfl
  rw[B,e];refine⟨?_,rfl,fun _=>C⟩;exact ycF (hA:=true) (hB:=false) (hN:=false) (hT:=false) (hV:=false) rfl ⟨h1,h2⟩ ⟨G,F⟩ ⟨I,(fun h=>by cases h)⟩ ⟨Int.le_refl _,(fun _=>rfl)⟩ ⟨(by show(⟨#[]⟩:ByteArray).size<=64;decide),(fun _=>rfl)⟩ ⟨by show(⟨#[]⟩:ByteArray).size<=128;decide,fun _=>rfl⟩ ⟨A,(fun _=>rfl)⟩
 .have e:evOfC c=⟨0,c.time,7,c.a,c.b,c.name,⟨#[]⟩,yaa c.v⟩:=by unfold evOfC;rw[if_neg (by omega),if_neg (by omega),if_pos k]
  have B:evW c=evOfC c:=by unfold evW;rw[e];rfl
  rw[B,e];refine⟨?_,rfl,fun hw=>D.resolve_right (fun x=>x hw)⟩;exact ycF (hA:=true) (hB:=true) (hN:=true) (hT:=false) (hV:=true) rfl ⟨h1,h2⟩ ⟨G,F⟩ ⟨I,(fun h=>by cases h)⟩ ⟨Q,(fun h=>by cases h)⟩ ⟨K,(fun h=>by cases h)⟩ ⟨by show(⟨#[]⟩:ByteArray).size<=128;decide,fun _=>rfl⟩ ⟨E,(fun h=>by cases h)⟩
 .have e:evOfC c=⟨0,c.time,16,0,0,⟨#[]⟩,⟨#[]⟩,yaa c.v⟩:=by unfold evOfC;rw[if_neg (by omega),if_neg (by omega),if_neg (by omega),if_pos k]
  have B:evW c=evOfC c:=by unfold evW;rw[e];rfl
  rw[B,e];refine⟨?_,rfl,fun hw=>D.resolve_right (fun x=>x hw)⟩;exact ycF (hA:=false) (hB:=false) (hN:=false) (hT:=false) (hV:=true) rfl ⟨h1,h2⟩ ⟨G,F⟩ ⟨Int.le_refl _,(fun _=>rfl)⟩ ⟨Int.le_refl _,(fun _=>rfl)⟩ ⟨(by show(⟨#[]⟩:ByteArray).size<=64;decide),(fun _=>rfl)⟩ ⟨by show(⟨#[]⟩:ByteArray).size<=128;decide,fun _=>rfl⟩ ⟨E,(fun h=>by cases h)⟩
 .have e:evOfC c=⟨0,c.time,17,0,0,c.name,⟨#[]⟩,yag⟩:=by unfold evOfC;rw[if_neg (by omega),if_neg (by omega),if_neg (by omega),if_neg (by omega),if_pos k]
  have B:evW c=evOfC c:=by unfold evW;rw[e];rfl
  rw[B,e];refine⟨?_,rfl,fun _=>C⟩;exact ycF (hA:=false) (hB:=false) (hN:=true) (hT:=false) (hV:=false) rfl ⟨h1,h2⟩ ⟨G,F⟩ ⟨Int.le_refl _,(fun _=>rfl)⟩ ⟨Int.le_refl _,(fun _=>rfl)⟩ ⟨K,(fun h=>by cases h)⟩ ⟨by show(⟨#[]⟩:ByteArray).size<=128;decide,fun _=>rfl⟩ ⟨A,(fun _=>rfl)⟩
 .have e:evOfC c=⟨0,c.time,21,0,0,⟨#[]⟩,⟨#[]⟩,yaa c.v⟩:=by unfold evOfC;rw[if_neg (by omega),if_neg (by omega),if_neg (by omega),if_neg (by omega),if_neg (by omega),if_pos k]
  have B:evW c={evOfC c with b:=2}:=by unfold evW;rw[e];rfl
  rw[B,e];refine⟨?_,rfl,fun hw=>D.resolve_right (fun x=>x hw)⟩;exact ycF (hA:=false) (hB:=true) (hN:=false) (hT:=false) (hV:=true) rfl ⟨h1,h2⟩ ⟨G,F⟩ ⟨Int.le_refl _,(fun _=>rfl)⟩ ⟨(by show(0:Int)<=2;decide),(fun h=>by cases h)⟩ ⟨(by show(⟨#[]⟩:ByteArray).size<=64;decide),(fun _=>rfl)⟩ ⟨by show(⟨#[]⟩:ByteArray).size<=128;decide,fun _=>rfl⟩ ⟨E,(fun h=>by cases h)⟩
structure Bk (p:Img)(fa:Fa)(b:BK)(n t:Nat):Prop where
 hi:HI p b.list (rB p b)
 over:(rB p b).closed=b.over
 evs:∀e∈b.list,yaf e=0/\e.v.wf
 o:(yau b.list).length<=n
 cnt:b.list.length<=n+t+(yaT b.list).length
 st:St p fa (rB p b).m
 ev:(rB p b).m.events<=n
section
variable{p:Img} {fa:Fa} {b:BK} {n t:Nat}
theorem yoR (S:St p fa (ms0 p)):Bk p fa ⟨[],false⟩ 0 0:=⟨ymD p,rfl,(fun _ h=>by cases h),znc _,znc _,S,znc _⟩
theorem Bk.len (B:Bk p fa b n t)(hn:n<=30):b.list.length<=n+t+600000:=by
 have E:=B.cnt;have D:(yaT b.list).length<=(rB p b).m.made.length:=by
  have h:=congrArg List.length B.hi.found;rw[zmd,zmd]at h;rw[h];exact znf (List.length_filter_le _ _) (by rw[List.length_take];exact Nat.min_le_right _ _)
 have C:=B.st.bd;have A:=B.ev;omega
theorem Bk.want (B:Bk p fa b n t)(ho:b.over=false){e:Ev}(h0:yaf {e with id:=(b.list.length:Int)+1}=0)(hf:b.list=[]↔e.kind=1):yfW (rB p b) {e with id:=(b.list.length:Int)+1}=0:=by
 refine yjL h0 (by rw[B.hi.seen]) (B.over.trans ho) ?_;rw[B.hi.seen,List.length_eq_zero_iff];exact hf
theorem Bk.out_ (B:Bk p fa b n t)(K:Known p fa)(P:Pk p)(hsp:fa.span<=p.code.length+1)(ho:b.over=false){e:Ev}(h0:yaf e=0)(hw:e.v.wf)(hk:yaH e.kind=true)(hf:b.list=[]↔e.kind=1)(hg:e.kind=12->yeS b.list e.a=false)(hn:n+1<=30)(ht:t<=400000):Bk p fa (ydM b e) (n+1) t:=by
 have G:=B.len (by omega);have D:=yiI h0 (n:=(b.list.length:Int)+1) (by omega) (by omega);have H:=B.hi.o (B.want ho D hf) hk (fun h12 c hcm h13 ha=>by
  have:=hg h12;unfold yeS at this;rw[List.any_eq_false]at this;refine this c hcm ?_;rw[Bool.and_eq_true,beq_iff_eq,beq_iff_eq];exact⟨h13,ha⟩)
 have C:rB p (ydM b e)=_:=H.fed;obtain⟨F,E⟩:=B.st.apply K P hsp {e with id:=(b.list.length:Int)+1} hw (by have:=B.ev;omega);refine⟨by rw[C];exact H,by rw[C];show _=(b.over||yaG e.kind);rw[ho];rfl,fun x A=> ?_,?_,?_,by rw[C];exact F,by rw[C];have:=B.ev;exact znf E (by omega)⟩
 .rcases List.mem_append.1 A with A|A
  .exact B.evs x A
  .rw[List.mem_singleton.1 A];exact⟨D,hw⟩
 .show(yau (b.list++[_])).length<=_
  rw[ybf,znk];have E:(yau [({e with id:=(b.list.length:Int)+1}:Ev)]).length<=1:=List.length_filter_le _ _;have:=B.o;omega
 .show(b.list++[_]).length<=_+(yaT (b.list++[_])).length
  rw[ybK,znk,znk,zmh];have:=B.cnt;omega
theorem Bk.cmd (B:Bk p fa b n t)(ho:b.over=false)(hne:b.list≠[])(hn:n<=30)(ht:t<=400000){c:Cm}{tl:List Cm}(hnl:NL (rB p b).fired ((rB p b).m.made.drop (rB p b).next)=c::tl):
  Bk p fa (ydM b (evW c)) n t/\(rB p (ydM b (evW c))).fired=(rB p b).fired/\NL (rB p b).fired ((rB p (ydM b (evW c))).m.made.drop (rB p (ydM b (evW c))).next)=tl:=by
 have L:=B.len hn;have I:c∈(rB p b).m.made:=List.mem_of_mem_drop (List.mem_filter.1 (show c∈NL (rB p b).fired ((rB p b).m.made.drop (rB p b).next) by rw[hnl];exact zmf)).1;have E:=B.st.rk.vs.mds c I;obtain⟨J,A,F⟩:=yhE E.1 (n:=(b.list.length:Int)+1) (by omega) (by omega);obtain⟨K,H,G⟩:=B.hi.made (B.want ho J ⟨fun h=>absurd h hne,fun h=>absurd A (by rw[h];decide)⟩) A hnl (by rw[yng];exact yiA c);have C:rB p (ydM b (evW c))=_:=H.fed;refine⟨⟨by rw[C];exact H,by rw[C];show _=(b.over||yaG (evW c).kind);rw[ho];rfl,fun x D=> ?_,?_,?_,by rw[C];exact B.st,by rw[C];exact B.ev⟩,by rw[C],by rw[C];exact G⟩
 .rcases List.mem_append.1 D with D|D
  .exact B.evs x D
  .rw[List.mem_singleton.1 D];exact⟨J,F E.2⟩
 .show(yau (b.list++[_])).length<=_
  rw[ybf,show yau [({evW c with id:=(b.list.length:Int)+1}:Ev)]=[] by unfold yau;rw[List.filter_cons,if_neg (by show¬yaH (evW c).kind=true;rw[yc4 A];decide)];rfl,List.append_nil];exact B.o
 .show(b.list++[_]).length<=_+(yaT (b.list++[_])).length
  rw[ybK,znk,znk,zmh,show yaT [({evW c with id:=(b.list.length:Int)+1}:Ev)]=[({evW c with id:=(b.list.length:Int)+1}:Ev)] by unfold yaT;rw[List.filter_cons,if_pos (show ybd (evW c).kind=true from A)];rfl,zmh];have:=B.cnt;omega
theorem Bk.late (B:Bk p fa b n t)(c:Cm):((c.kind !=2)|| !yep b.list c.a)= !ybe (rB p b).fired c:=by
 have h:yep b.list c.a=decide (c.a∈(rB p b).fired):=by
  rw[Bool.eq_iff_iff,decide_eq_true_iff,B.hi.fired];unfold yep;rw[List.any_eq_true];constructor
  .rintro⟨x,A,h⟩
   rw[Bool.and_eq_true,beq_iff_eq,beq_iff_eq]at h;exact⟨x,A,h⟩
  .rintro⟨x,A,h⟩
   exact⟨x,A,by rw[Bool.and_eq_true,beq_iff_eq,beq_iff_eq];exact h⟩
 rw[h];unfold ybe;cases hk:(c.kind==2)<;>simp[bne,hk]
structure CmI (p:Img)(fa:Fa)(n t:Nat)(F:List Int)(cs rest:List Cm)(b:BK):Prop where
 bk:Bk p fa b n t
 ne:b.list≠[]
 fired:(rB p b).fired=F
 nl:NL F ((rB p b).m.made.drop (rB p b).next)=NL F cs++rest
theorem CmI.step {F:List Int}{c:Cm}{cs rest:List Cm}(C:CmI p fa n t F (c::cs) rest b)(hn:n<=30)(ht:t<=400000)(ho:b.over=false):CmI p fa n t F cs rest (bif (c.kind !=2)|| !yep b.list c.a then ydM b (evW c)else b):=by
 have h:=C.nl;rw[C.bk.late,C.fired];rw[yds]at h;cases hl:ybe F c with
 |true=>
  rw[hl,znm]at h;exact⟨C.bk,C.ne,C.fired,h⟩
 |false=>
  rw[hl,znl,List.cons_append]at h;have A:=C.fired;subst A;obtain⟨E,D,B⟩:=C.bk.cmd ho C.ne hn ht h;exact⟨E,by show b.list++[_]≠[];simp,D,B⟩
end
set_option linter.unusedVariables false
structure Wr (p:Img)(fa:Fa)(b:BK)(n t last:Nat):Prop where
 bk:Bk p fa b n t
 lst:last<=b.list.length
 tail:∀e∈b.list.drop last,yaH e.kind=true
 nil:b.list=[]↔n=0
def ybX (l:List Ev):List Int:=(l.filter (fun e=>e.kind==12)).map (·.a)
def yaw (p:Img)(l:List Ev):List Ev:=(NL (ybX l) (ycv p (ms0 p) l).made).map evOfC
theorem yfd {l:List Ev}{a:Int}:a∈ybX l↔∃e∈l,e.kind=12/\e.a=a:=by
 unfold ybX;rw[List.mem_map];constructor
 .rintro⟨x,A,h⟩
  obtain⟨C,B⟩:=List.mem_filter.1 A;exact⟨x,C,by simpa using B,h⟩
 .rintro⟨x,A,C,B⟩
  exact⟨x,List.mem_filter.2 ⟨A,by simpa using C⟩,B⟩
theorem yfn {p:Img}{s:MS}{e f:Ev}(he:yaf e=0)(hf:yaf f=0)(h:yap e=yap f):yah p s e=yah p s f:=by
 have hk:e.kind=f.kind:=(congrArg Ev.kind h:(yap e).kind=(yap f).kind);have A:e.time=f.time:=(congrArg Ev.time h:(yap e).time=(yap f).time);have D:e.a=f.a:=(congrArg Ev.a h:(yap e).a=(yap f).a);have B:e.name=f.name:=(congrArg Ev.name h:(yap e).name=(yap f).name);have hv:yaa e.v=yaa f.v:=(congrArg Ev.v h:(yap e).v=(yap f).v);have hend:∀(id how:Int) (l:List Th),ycw id how e.v l=ycw id how f.v l:=fun id how l=>by
  induction l with
  |nil=>rfl
  |cons x r ih=>rw[ycw,ycw,ih,hv]
 have C:∀s,hear s e=hear s f:=fun s=>by
  unfold hear;rw[hk,D,B,hv,hend]
 unfold yah;rw[he,hf,hk,A,C]
theorem ygt {p:Img}:∀(l m:List Ev) (s:MS),(∀e∈l,yaf e=0)->(∀e∈m,yaf e=0)->l.map yap=m.map yap->ycv p s l=ycv p s m
 |[],[],_,_,_,_=>rfl
 |[],_::_,_,_,_,h=>by cases h
 |_::_,[],_,_,_,h=>by cases h
 |e::l,f::m,s,h1,h2,h=>by
  rw[List.map_cons,List.map_cons]at h;obtain⟨h3,h4⟩:=List.cons.inj h;show ycv p (yah p s e).2 l=ycv p (yah p s f).2 m;rw[yfn (h1 e zmf) (h2 f zmf) h3];exact ygt l m _ (fun x hx=>h1 x (zme _ hx)) (fun x hx=>h2 x (zme _ hx)) h4
theorem yjp {l m:List Ev}(h:l.map yap=m.map yap)(a:Int):a∈ybX l↔a∈ybX m:=by
 have one:∀{l m:List Ev},l.map yap=m.map yap->a∈ybX l->a∈ybX m:=fun{l m} h hl=>by
  rw[yfd]at hl|-;obtain⟨e,E,G,F⟩:=hl;have:yap e∈m.map yap:=by rw[<-h];exact List.mem_map_of_mem E
  obtain⟨f,D,A⟩:=List.mem_map.1 this;have C:f.kind=e.kind:=(congrArg Ev.kind A:(yap f).kind=(yap e).kind);have B:f.a=e.a:=(congrArg Ev.a A:(yap f).a=(yap e).a);exact⟨f,D,C.trans G,B.trans F⟩
 exact⟨one h,one h.symm⟩
theorem yg8 {p:Img}{l m:List Ev}(h1:∀e∈l,yaf e=0)(h2:∀e∈m,yaf e=0)(h:l.map yap=m.map yap):yaw p l=yaw p m:=by
 unfold yaw;rw[ygt l m _ h1 h2 h,ylg (yjp h)]
end Go.Va
