/- Parts of the proof: what the functions and the plain laws give that later parts lean on. Conditions: none beyond those that each theorem names. -/
import Derived.Test.YtpagmlndgblhhaaGreatDoorT9
set_option maxRecDepth 100000
set_option maxHeartbeats 8000000
namespace Go.Va
open Go.Own Go.RowKit
open Go.Proofs.YtpagmlndgblhhaaGreatDoor
def ykZ (k:Int):Option (Bool×Bool×Bool×Bool):=
 if k=1 then some (true,true,false,false)else if k=2 then some (true,false,false,false)else if k=3 then some (true,true,true,true)else if k=4\/k=6 then some (false,false,false,true)else if k=5 then some (false,false,true,false)else none
def yaV (c:Cm):Int:=
 match ykZ c.kind with
 |none=>9
 |some (fa,fb,fn,fv)=>
  if c.time<0\/4611686018427387903<c.time\/c.a<0\/c.b<0\/(fa=false/\c.a≠0)\/(fb=false/\c.b≠0)then 1 else
  if 64<c.name.size then 2 else
  if(fn=false/\c.name.size≠0)\/(fv=false/\c.v.kind≠0)then 8 else checkL c.v
theorem ycS:yag.wf:=by
 rw[yag,Val.wf,Val.wf.wfL];exact⟨⟨by decide,by decide⟩,⟨by decide,by decide⟩,znq _,trivial⟩
theorem yb6:Okv yag:=⟨ybQ,ycS⟩
theorem yc0 {n:Int}(h: -9223372036854775808<=n/\n<=9223372036854775807):Okv (ybw n):=by
 refine⟨yk2 n,?_⟩;rw[ybw,Val.wf,Val.wf.wfL];exact⟨⟨by decide,by decide⟩,h,znq _,trivial⟩
theorem yb0 (b:Bool):Okv (yaK b):=yc0 (by cases b<;>decide)
theorem ym3 {s:ByteArray}(h:s.size<=64):Okv (ybR s):=by
 refine⟨yjn h,?_⟩;rw[ybR,Val.wf,Val.wf.wfL];exact⟨⟨by decide,by decide⟩,⟨by decide,by decide⟩,by omega,trivial⟩
theorem ybd {x:Val}(h:Okv x):Okv (yab x):=⟨by rw[yaN];exact h.1,ybX x h.2⟩
theorem yfh {l:List Val}(h:∀x∈l,x.wf):(Val.mk 3 0 ⟨#[]⟩ l).wf:=by
 rw[Val.wf];exact⟨⟨by decide,by decide⟩,⟨by decide,by decide⟩,znq _,Val.wfL_iff.2 h⟩
theorem ykb {x y:Val}(h:Okv x)(hk:x.kind=3)(hy:y∈x.list):Okv y:=by
 cases x with
 |mk k n s l=>
  have hk:k=3:=hk;subst hk;exact⟨yjq h.1 hy,Val.wfL_mem ((Val.wf_eq _).1 h.2).2.2.2 hy⟩
structure Pk (p:Img):Prop where
 consts:∀x∈p.consts,Okv x
 names:∀x∈p.names,x.size<=64
structure Vs (s:MS):Prop where
 stk:∀x∈s.stk,Okv x
 pls:∀x∈s.places,Okv x
 inp:Okv s.input
 tms:∀x∈s.timers.list,Okv x.result/\ -1<=x.how/\x.how<=1/\1<=x.id/\x.id<=s.timers.next
 acs:∀x∈s.acts.list,Okv x.result/\ -1<=x.how/\x.how<=1/\1<=x.id/\x.id<=s.acts.next
 lts:∀x∈s.letters,Okv x.v/\x.name.size<=64
 mds:∀c∈s.made,yaV c=0/\c.v.wf
 now:0<=s.now/\s.now<=4611686018427387903
 nt:0<=s.timers.next/\s.timers.next<=s.made.length
 na:0<=s.acts.next/\s.acts.next<=s.made.length
theorem Vs.push {s:MS}(V:Vs s){x:Val}(h:Okv x):Vs (s.push x):=⟨fun y hy=>(List.mem_append.1 hy).elim (V.stk y) (fun e=>by rw[List.mem_singleton.1 e];exact h),V.pls,V.inp,V.tms,V.acs,V.lts,V.mds,V.now,V.nt,V.na⟩
theorem ydv {α:Type}{x:α}:∀{l:List α},x∈l.dropLast->x∈l:=fun h=>List.dropLast_subset _ h
theorem Vs.pop {s:MS}(V:Vs s):Vs s.pop:=⟨fun y hy=>V.stk y (ydv hy),V.pls,V.inp,V.tms,V.acs,V.lts,V.mds,V.now,V.nt,V.na⟩
theorem Vs.nxt {s:MS}(V:Vs s):Vs s.nxt:=⟨V.stk,V.pls,V.inp,V.tms,V.acs,V.lts,V.mds,V.now,V.nt,V.na⟩
theorem Vs.jump {s:MS}(V:Vs s)(k:Nat):Vs {s with at_:=k}:=⟨V.stk,V.pls,V.inp,V.tms,V.acs,V.lts,V.mds,V.now,V.nt,V.na⟩
theorem Vs.top {s:MS}(V:Vs s):Okv s.top:=by
 unfold MS.top;cases h:s.stk.getLast? with
 |none=>exact yb6
 |some x=>exact V.stk x (List.mem_of_getLast? h)
theorem Vs.openL {s:MS}(V:Vs s)(i:Nat):Vs (s.openL i):=⟨V.stk,V.pls,V.inp,V.tms,V.acs,fun y hy=>V.lts y (List.mem_of_mem_eraseIdx hy),V.mds,V.now,V.nt,V.na⟩
theorem Vs.letV {s:MS}(V:Vs s)(i:Nat):Okv (s.letV i):=by
 unfold MS.letV;cases h:s.letters[i]? with
 |none=>exact yb6
 |some x=>exact(V.lts x (zmg h)).1
theorem Vs.want {s:MS}(V:Vs s){c:Cm}(h:yaV {c with time:=s.now,v:=yab c.v}=0)(hw:c.v.wf):Vs (s.want c):=
 ⟨V.stk,V.pls,V.inp,V.tms,V.acs,V.lts,fun y hy=>(List.mem_append.1 hy).elim (V.mds y) (fun e=>by rw[List.mem_singleton.1 e];exact⟨h,ybX _ hw⟩),V.now,
   ⟨V.nt.1,by have:=V.nt.2;show _<=(((s.made++[_]).length:Nat):Int);rw[znk];show s.timers.next<=((s.made.length+1:Nat):Int);omega⟩,⟨V.na.1,by have:=V.na.2;show _<=(((s.made++[_]).length:Nat):Int);rw[znk];show s.acts.next<=((s.made.length+1:Nat):Int);omega⟩⟩
theorem ycQ {c:Cm}{fa fb fn fv:Bool}(hh:ykZ c.kind=some (fa,fb,fn,fv))(ht:0<=c.time/\c.time<=4611686018427387903)(ha:0<=c.a/\(fa=false->c.a=0))(hb:0<=c.b/\(fb=false->c.b=0))(hn:c.name.size<=64/\(fn=false->c.name.size=0))(hv:checkL c.v=0/\(fv=false->c.v.kind=0)):yaV c=0:=by
 unfold yaV;rw[hh];dsimp only;rw[if_neg,if_neg (by omega),if_neg]
 .exact hv.1
 .rintro(⟨B,A⟩|⟨B,A⟩)
  .exact A (hn.2 B)
  .exact A (hv.2 B)
 .rintro(h|h|h|h|⟨B,A⟩|⟨B,A⟩)
  .omega
  .omega
  .omega
  .omega
  .exact A (ha.2 B)
  .exact A (hb.2 B)
theorem Vs.fall {s:MS}(V:Vs s){why:ByteArray}(h:why.size<=59):Vs (s.fall why):=by
 have A:Vs {s with trap:=why}:=⟨V.stk,V.pls,V.inp,V.tms,V.acs,V.lts,V.mds,V.now,V.nt,V.na⟩;refine A.want (ycQ (fa:=false) (fb:=false) (fn:=true) (fv:=false) rfl V.now ⟨Int.le_refl _,fun _=>rfl⟩ ⟨Int.le_refl _,fun _=>rfl⟩ ⟨?_,fun e=>by cases e⟩ ⟨by rw[yaN];exact ybQ,fun _=>rfl⟩) ycS;show(⟨#[116,114,97,112,32]⟩++why:ByteArray).size<=64;rw[ByteArray.size_append];show 5+why.size<=64;omega
theorem Vs.put {s:MS}(V:Vs s){x:Val}(h:checkL x=0->x.wf):Vs (s.put x):=by
 unfold MS.put;split
 .exact V.fall (by decide)
 .rename_i A
  have A:checkL x=0:=by simpa using A
  exact V.push ⟨A,h A⟩
theorem ymL (n:Int): -9223372036854775808<=wrap64 n/\wrap64 n<=9223372036854775807:=by unfold wrap64;omega
theorem Vs.arith {s:MS}(V:Vs s)(op:Int)(a b:Val):Vs (s.arith op a b):=by
 unfold MS.arith;split
 .exact V.fall (by decide)
 .exact V.push (yc0 (ymL _))
theorem yjI {s:ByteArray}(h:checkL (ybR s)=0):(ybR s).wf:=by
 have A:=(ybl.1 h).1;rw[ybR,yal]at A;have A:(bif decide (256<s.size)then(2:Int)else 0)=0:=A;have B:s.size<=256:=by
  by_cases e:256<s.size
  .rw[zno e]at A;cases A
  .omega
 rw[ybR,Val.wf,Val.wf.wfL];exact⟨⟨by decide,by decide⟩,⟨by decide,by decide⟩,by omega,trivial⟩
theorem Vs.two {s:MS}(V:Vs s)(op:Int){a b:Val}(ha:Okv a)(hb:Okv b):Vs (s.two op a b):=by
 unfold MS.two;split
 .exact V.push (yb0 _)
 .split
  .exact V.push (yb0 _)
  .split
   .split
    .exact V.fall (by decide)
    .rename_i hk
     refine V.push (ybd ?_);split
     .cases h:a.list[b.num.toNat]? with
      |none=>exact yb6
      |some x=>exact ykb ha (by omega) (zmg h)
     .exact yb6
   .split
    .split
     .exact V.put yjI
     .split
      .refine V.put (fun _=>ybX _ (yfh fun x A=> ?_))
       rcases List.mem_append.1 A with A|A
       .exact Val.wfL_mem ((Val.wf_eq _).1 ha.2).2.2.2 A
       .exact Val.wfL_mem ((Val.wf_eq _).1 hb.2).2.2.2 A
      .exact V.fall (by decide)
    .exact V.arith op a b
theorem yoc {x:Val}(h:Okv x)(hk:x.kind=3):x.list.length<=64:=by
 cases x with
 |mk k n s l=>
  have hk:k=3:=hk;subst hk;have A:=(ybl.1 h.1).1;rw[yal]at A;have A:(yal.walkL l 1 (1,bif decide (64<l.length)then 2 else 0)).2=0:=A;show l.length<=64;by_cases e:64<l.length
  .rw[zno e,show(bif true then(2:Int)else 0)=2 from rfl,ya5 l 1 (1,2) rfl]at A
   cases A
  .omega
theorem Vs.reckon {s:MS}(V:Vs s)(op:Int)(k:Nat):Vs (s.reckon op k):=by
 unfold MS.reckon;split
 .have A:Vs {s with stk:=s.stk.take (s.stk.length - k)}:=⟨fun y hy=>V.stk y (List.mem_of_mem_take hy),V.pls,V.inp,V.tms,V.acs,V.lts,V.mds,V.now,V.nt,V.na⟩
  exact A.put (fun _=>yfh fun x hx=>(V.stk x (List.mem_of_mem_drop hx)).2)
 .split
  .exact V.pop.push (yb0 _)
  .split
   .split
    .rename_i hk
     have:=yoc V.top hk;exact V.pop.push (yc0 (by omega))
    .split
     .have h:=((Val.wf_eq _).1 V.top.2).2.2.1
      exact V.pop.push (yc0 (by omega))
     .exact V.pop.fall (by decide)
   .exact V.pop.pop.two op V.pop.top V.top
theorem Vs.begin_ {s:MS}(V:Vs s)(op:Int){name:ByteArray}(hn:name.size<=64)(hm:s.made.length<4611686018427387904):Vs (s.begin_ op name):=by
 have G:=V.nt;have I:=V.na;unfold MS.begin_;dsimp only;split
 .split
  .exact V.pop.fall (by decide)
  .rename_i i C
   have hk:s.top.kind=1/\yav s.top.num s.timers.list=some i:=by
    split at C
    .rename_i hk;exact⟨hk,C⟩
    .cases C
   obtain⟨x,D,H⟩:=Go.Va.findT_some hk.2;have F:Vs {s.pop with timers:=⟨s.timers.list.eraseIdx i,s.timers.next⟩}:=⟨V.pop.stk,V.pls,V.inp,fun y B=>V.tms y (List.mem_of_mem_eraseIdx B),V.acs,V.lts,V.mds,V.now,V.nt,V.na⟩;rw[D];dsimp only[Option.getD];cases x.over with
   |true=>exact F.push (yb0 _)
   |false=>
    have K:=V.tms x (zmg D);refine Vs.push (F.want (ycQ (fa:=true) (fb:=false) (fn:=false) (fv:=false) rfl V.now ⟨?_,fun e=>by cases e⟩ ⟨Int.le_refl _,fun _=>rfl⟩ ⟨znq _,fun _=>rfl⟩ ⟨by rw[yaN];exact ybQ,fun _=>rfl⟩) ycS) (yb0 _);show 0<=s.top.num;omega
 .split
  .exact V.pop.fall (by decide)
  .rename_i J
   split
   .exact V.pop.fall (by decide)
   .have hv:0<=s.top.num:=by omega
    split
    .refine Vs.push ?_ (yc0 (by omega))
     have E:=V.pop.top;refine⟨V.pop.pop.stk,V.pls,V.inp,V.tms,fun y B=> ?_,V.lts,fun c A=> ?_,V.now,⟨G.1,?_⟩,⟨?_,?_⟩⟩
     .rcases List.mem_append.1 B with B|B
      .have:=V.acs y B
       exact⟨this.1,this.2.1,this.2.2.1,this.2.2.2.1,by show y.id<=s.acts.next+1;omega⟩
      .rw[List.mem_singleton.1 B]
       exact⟨yb6,by show(-1:Int)<=0;decide,by show(0:Int)<=1;decide,by show 1<=s.acts.next+1;omega,Int.le_refl _⟩
     .rcases List.mem_append.1 A with A|A
      .exact V.mds c A
      .rw[List.mem_singleton.1 A]
       exact⟨ycQ (fa:=true) (fb:=true) (fn:=true) (fv:=true) rfl V.now ⟨by show 0<=s.acts.next+1;omega,fun e=>by cases e⟩ ⟨hv,fun e=>by cases e⟩ ⟨hn,fun e=>by cases e⟩ ⟨by rw[yaN];exact E.1,fun e=>by cases e⟩,ybX _ E.2⟩
     .show s.timers.next<=(((s.made++[_]).length:Nat):Int)
      rw[znk];show s.timers.next<=((s.made.length+1:Nat):Int);omega
     .show 0<=s.acts.next+1
      omega
     .show s.acts.next+1<=(((s.made++[_]).length:Nat):Int)
      rw[znk];show s.acts.next+1<=((s.made.length+1:Nat):Int);omega
    .refine Vs.push ?_ (yc0 (by omega))
     refine⟨V.pop.stk,V.pls,V.inp,fun y B=> ?_,V.acs,V.lts,fun c A=> ?_,V.now,⟨?_,?_⟩,⟨I.1,?_⟩⟩
     .rcases List.mem_append.1 B with B|B
      .have:=V.tms y B
       exact⟨this.1,this.2.1,this.2.2.1,this.2.2.2.1,by show y.id<=s.timers.next+1;omega⟩
      .rw[List.mem_singleton.1 B]
       exact⟨yb6,by show(-1:Int)<=0;decide,by show(0:Int)<=1;decide,by show 1<=s.timers.next+1;omega,Int.le_refl _⟩
     .rcases List.mem_append.1 A with A|A
      .exact V.mds c A
      .rw[List.mem_singleton.1 A]
       exact⟨ycQ (fa:=true) (fb:=true) (fn:=false) (fv:=false) rfl V.now ⟨by show 0<=s.timers.next+1;omega,fun e=>by cases e⟩ ⟨hv,fun e=>by cases e⟩ ⟨znq _,fun _=>rfl⟩ ⟨by rw[yaN];exact ybQ,fun _=>rfl⟩,ybX _ ycS⟩
     .show 0<=s.timers.next+1
      omega
     .show s.timers.next+1<=(((s.made++[_]).length:Nat):Int)
      rw[znk];show s.timers.next+1<=((s.made.length+1:Nat):Int);omega
     .show s.acts.next<=(((s.made++[_]).length:Nat):Int)
      rw[znk];show s.acts.next<=((s.made.length+1:Nat):Int);omega
theorem ya6 {a b:MS}{c:Prop}[Decidable c](ha:c->Vs a)(hb:¬c->Vs b):Vs (if c then a else b):=by
 split
 .rename_i h;exact ha h
 .rename_i h;exact hb h
theorem Vs.wait {s s':MS}(V:Vs s){op:Int}{name:ByteArray}(h:s.wait op name=some s'):Vs s':=by
 unfold MS.wait at h;split at h
 .cases A:yap name s.letters with
  |none=>rw[A]at h;cases h
  |some i=>rw[A]at h;cases h;exact((V.openL i).push (V.letV i)).nxt
 .dsimp only at h
  split at h
  .cases h;exact V.fall (by decide)
  .rename_i i A
   have C:yav s.top.num (if op=21 then s.acts.list else s.timers.list)=some i:=by
    split at A
    .exact A
    .cases A
   obtain⟨x,E,G⟩:=Go.Va.findT_some C;split at h
   .rename_i k _
    cases h;exact(((V.pop.openL k).push (V.letV k)).push (yb0 _)).nxt
   .rw[E]at h
    dsimp only[Option.getD]at h;have B:Okv x.result/\ -1<=x.how/\x.how<=1:=by
     have hm:=zmg E;split at hm
     .have:=V.acs x hm;exact⟨this.1,this.2.1,this.2.2.1⟩
     .have:=V.tms x hm;exact⟨this.1,this.2.1,this.2.2.1⟩
    cases hov:x.over with
    |false=>rw[hov]at h;cases h
    |true=>
     rw[hov]at h;simp only[Bool.not_true,znl,Option.some.injEq]at h;have D:Vs (if op=21 then{s.pop with acts:=⟨(if op=21 then s.acts.list else s.timers.list).eraseIdx i,s.acts.next⟩}else{s.pop with timers:=⟨(if op=21 then s.acts.list else s.timers.list).eraseIdx i,s.timers.next⟩}):=by
      by_cases h21:op=21
      .rw[if_pos h21,if_pos h21]
       exact⟨V.pop.stk,V.pls,V.inp,V.tms,fun y hy=>V.acs y (List.mem_of_mem_eraseIdx hy),V.lts,V.mds,V.now,V.nt,V.na⟩
      .rw[if_neg h21,if_neg h21]
       exact⟨V.pop.stk,V.pls,V.inp,fun y hy=>V.tms y (List.mem_of_mem_eraseIdx hy),V.acs,V.lts,V.mds,V.now,V.nt,V.na⟩
     have F:=V.now;rw[<-h];refine Vs.nxt ?_;exact ya6 (fun _=>D.push (yc0 (n:=s.now) (by omega))) (fun _=>ya6 (fun _=>(D.push B.1).push (yc0 (n:=x.how) (by omega))) (fun _=>(D.push yb6).push (yb0 _)))
theorem Vs.end_ {s:MS}(V:Vs s)(op:Int){name:ByteArray}(hn:name.size<=64):Vs (s.end_ op name):=by
 unfold MS.end_;split
 .exact V.pop.want (ycQ (fa:=false) (fb:=false) (fn:=false) (fv:=true) rfl V.now ⟨Int.le_refl _,fun _=>rfl⟩ ⟨Int.le_refl _,fun _=>rfl⟩ ⟨znq _,fun _=>rfl⟩ ⟨by rw[yaN];exact V.top.1,fun e=>by cases e⟩) V.top.2
 .split
  .exact V.pop.want (ycQ (fa:=false) (fb:=false) (fn:=false) (fv:=true) rfl V.now ⟨Int.le_refl _,fun _=>rfl⟩ ⟨Int.le_refl _,fun _=>rfl⟩ ⟨znq _,fun _=>rfl⟩ ⟨by rw[yaN];exact V.top.1,fun e=>by cases e⟩) V.top.2
  .exact V.want (ycQ (fa:=false) (fb:=false) (fn:=true) (fv:=false) rfl V.now ⟨Int.le_refl _,fun _=>rfl⟩ ⟨Int.le_refl _,fun _=>rfl⟩ ⟨hn,fun e=>by cases e⟩ ⟨by rw[yaN];exact ybQ,fun _=>rfl⟩) ycS
theorem Pk.name {p:Img}(P:Pk p)(k:Nat):(p.names[k]?.getD ⟨#[]⟩).size<=64:=by
 cases h:p.names[k]? with
 |none=>exact znq _
 |some x=>exact P.names x (zmg h)
theorem Vs.go {p:Img}(P:Pk p){s:MS}(V:Vs s)(op:Int)(k:Nat)(hm:s.made.length<4611686018427387904):Vs (s.go p op k):=by
 have A:∀(l:List Val),(∀x∈l,Okv x)->Okv (l[k]?.getD yag):=fun l hl=>by
  cases h:l[k]? with
  |none=>exact yb6
  |some x=>exact hl x (zmg h)
 have C:=V.now;unfold MS.go;dsimp only;refine ya6 (fun _=>V.push (ybd (A _ P.consts))) (fun _=>ya6 (fun _=>V.pop) (fun _=>ya6 (fun _=>V.push (ybd V.top)) (fun _=>ya6 (fun _=>(V.pop.pop.push V.top).push V.pop.top) (fun _=>ya6 (fun _=>V.push (ybd (A _ V.pls))) (fun _=>ya6 (fun _=> ?_) (fun _=>ya6 (fun _=>V.push (ybd V.inp)) (fun _=>ya6 (fun _=>V.push (yc0 (by omega))) (fun _=>ya6 (fun _=>V.push (yb0 _)) (fun _=>ya6 (fun _=> ?_) (fun _=>ya6 (fun _=>V.begin_ op (P.name k) hm) (fun _=>ya6 (fun _=>V) (fun _=>V.reckon op k))))))))))))
 .refine⟨V.pop.stk,fun y B=> ?_,V.inp,V.tms,V.acs,V.lts,V.mds,V.now,V.nt,V.na⟩
  rcases List.mem_or_eq_of_mem_set B with B|rfl
  .exact V.pls y B
  .exact V.top
 .cases yap (p.names[k]?.getD ⟨#[]⟩) s.letters with
  |none=>exact(V.push yb6).push (yb0 _)
  |some i=>exact((V.openL i).push (V.letV i)).push (yb0 _)
theorem Vs.step {p:Img}(P:Pk p){s s':MS}(V:Vs s)(hm:s.made.length<4611686018427387904)(h:yak p s=some s'):Vs s':=by
 unfold yak at h;dsimp only at h;cases hb:(ofL (p.code[s.at_]?.getD ⟨0,0⟩).op).1.blocks with
 |true=>rw[hb]at h;exact V.wait h
 |false=>
  rw[hb]at h;simp only[znl]at h;cases he:(ofL (p.code[s.at_]?.getD ⟨0,0⟩).op).1.ends with
  |true=>rw[he]at h;cases h;exact V.end_ _ (P.name _)
  |false=>
   rw[he]at h;simp only[znl]at h;cases hf:(ofL (p.code[s.at_]?.getD ⟨0,0⟩).op).1.flow with
   |true=>
    rw[hf]at h;cases h;cases((p.code[s.at_]?.getD ⟨0,0⟩).op==11)
    .cases ycE s.top
     .exact V.pop.jump _
     .exact V.pop.nxt
    .exact V.jump _
   |false=>
    rw[hf]at h;cases h;exact V.nxt.go P _ _ hm
def yo2 (c:Cm):Bool:=c.kind==4||c.kind==5||c.kind==6
def MdR (s s':MS):Prop:=∃l,s'.made=s.made++l/\l.length<=1/\∀c∈l,c.time=s.now/\(yo2 c=true->s'.over=true)
theorem MdR.same {s s':MS}(h:s'.made=s.made):MdR s s':=⟨[],by rw[h,List.append_nil],znq _,fun c hc=>by cases hc⟩
theorem MdR.want (s:MS)(c:Cm):MdR s (s.want c):=by
 refine⟨[{c with time:=s.now,v:=yab c.v}],rfl,znc _,fun d hd=> ?_⟩;rw[List.mem_singleton.1 hd];refine⟨rfl,fun h=> ?_⟩;show(s.over||(c.kind==4||c.kind==5||c.kind==6))=true;have h:(c.kind==4||c.kind==5||c.kind==6)=true:=h;rw[h,Bool.or_true]
theorem MdR.from_ {a s s':MS}(hm:a.made=s.made)(hn:a.now=s.now)(h:MdR a s'):MdR s s':=by
 obtain⟨l,C,B,A⟩:=h;exact⟨l,by rw[C,hm],B,fun c hc=>by rw[<-hn];exact A c hc⟩
theorem MdR.to_ {s a s':MS}(hm:s'.made=a.made)(ho:s'.over=a.over)(h:MdR s a):MdR s s':=by
 obtain⟨l,C,B,A⟩:=h;exact⟨l,by rw[hm,C],B,fun c hc=>by rw[ho];exact A c hc⟩
theorem MdR.fall (s:MS)(why:ByteArray):MdR s (s.fall why):=MdR.from_ (a:={s with trap:=why}) rfl rfl (MdR.want _ _)
theorem MdR.put (s:MS)(v:Val):MdR s (s.put v):=by
 unfold MS.put;split
 .exact MdR.fall _ _
 .exact MdR.same rfl
theorem MdR.arith (s:MS)(op:Int)(a b:Val):MdR s (s.arith op a b):=by
 unfold MS.arith;split
 .exact MdR.fall _ _
 .exact MdR.same rfl
theorem yaJ {s a b:MS}{c:Prop}[Decidable c](ha:MdR s a)(hb:MdR s b):MdR s (if c then a else b):=by
 split
 .exact ha
 .exact hb
theorem MdR.two (s:MS)(op:Int)(a b:Val):MdR s (s.two op a b):=by
 unfold MS.two;exact yaJ (MdR.same rfl) (yaJ (MdR.same rfl) (yaJ (yaJ (MdR.fall _ _) (MdR.same rfl)) (yaJ (yaJ (MdR.put _ _) (yaJ (MdR.put _ _) (MdR.fall _ _))) (MdR.arith _ _ _ _))))
theorem MdR.reckon (s:MS)(op:Int)(k:Nat):MdR s (s.reckon op k):=by
 unfold MS.reckon;exact yaJ (MdR.from_ (a:={s with stk:=s.stk.take (s.stk.length - k)}) rfl rfl (MdR.put _ _)) (yaJ (MdR.same rfl) (yaJ (yaJ (MdR.same rfl) (yaJ (MdR.same rfl) (MdR.from_ (a:=s.pop) rfl rfl (MdR.fall _ _)))) (MdR.from_ (a:=s.pop.pop) rfl rfl (MdR.two _ _ _ _))))
theorem MdR.begin_ (s:MS)(op:Int)(name:ByteArray):MdR s (s.begin_ op name):=by
 unfold MS.begin_;dsimp only;refine yaJ ?_ (yaJ (MdR.from_ (a:=s.pop) rfl rfl (MdR.fall _ _)) (yaJ (MdR.from_ (a:=s.pop) rfl rfl (MdR.fall _ _)) (yaJ ?_ ?_)))
 .split
  .exact MdR.from_ (a:=s.pop) rfl rfl (MdR.fall _ _)
  .rename_i i _
   cases(s.timers.list[i]?.getD ⟨0,false,yag,0⟩).over with
   |true=>exact MdR.same rfl
   |false=>
    obtain⟨x,A⟩:∃x:MS,x={s.pop with timers:=⟨s.timers.list.eraseIdx i,s.timers.next⟩}:=⟨_,rfl⟩;rw[<-A];exact MdR.to_ (a:=x.want ⟨2,0,s.top.num,0,⟨#[]⟩,yag⟩) rfl rfl (MdR.from_ (a:=x) (by rw[A];rfl) (by rw[A];rfl) (MdR.want _ _))
 .obtain⟨x,A⟩:∃x:MS,x={s.pop.pop with acts:=ycl s.acts}:=⟨_,rfl⟩
  rw[<-A];exact MdR.to_ (a:=x.want ⟨3,0,s.acts.next+1,s.top.num,name,s.pop.top⟩) rfl rfl (MdR.from_ (a:=x) (by rw[A];rfl) (by rw[A];rfl) (MdR.want _ _))
 .obtain⟨x,A⟩:∃x:MS,x={s.pop with timers:=ycl s.timers}:=⟨_,rfl⟩
  rw[<-A];exact MdR.to_ (a:=x.want ⟨1,0,s.timers.next+1,s.top.num,⟨#[]⟩,yag⟩) rfl rfl (MdR.from_ (a:=x) (by rw[A];rfl) (by rw[A];rfl) (MdR.want _ _))
theorem MdR.wait {s s':MS}{op:Int}{name:ByteArray}(h:s.wait op name=some s'):MdR s s':=by
 unfold MS.wait at h;split at h
 .cases hf:yap name s.letters with
  |none=>rw[hf]at h;cases h
  |some i=>rw[hf]at h;cases h;exact MdR.same rfl
 .dsimp only at h
  split at h
  .cases h;exact MdR.fall _ _
  .split at h
   .cases h;exact MdR.same rfl
   .rename_i i _ _ _
    cases hov:((if op=21 then s.acts.list else s.timers.list)[i]?.getD ⟨0,false,yag,0⟩).over with
    |false=>rw[hov]at h;cases h
    |true=>
     rw[hov]at h;simp only[Bool.not_true,znl,Option.some.injEq]at h;rw[<-h];by_cases h21:op=21
     .rw[if_pos h21]
      by_cases h18:op=18
      .rw[if_pos h18];exact MdR.same rfl
      .rw[if_neg h18,if_pos h21];exact MdR.same rfl
     .rw[if_neg h21]
      by_cases h18:op=18
      .rw[if_pos h18];exact MdR.same rfl
      .rw[if_neg h18,if_neg h21];exact MdR.same rfl
theorem MdR.end_ (s:MS)(op:Int)(name:ByteArray):MdR s (s.end_ op name):=by
 unfold MS.end_;exact yaJ (MdR.from_ (a:=s.pop) rfl rfl (MdR.want _ _)) (yaJ (MdR.from_ (a:=s.pop) rfl rfl (MdR.want _ _)) (MdR.want _ _))
theorem MdR.go (s:MS)(p:Img)(op:Int)(k:Nat):MdR s (s.go p op k):=by
 unfold MS.go;dsimp only;refine yaJ (MdR.same rfl) (yaJ (MdR.same rfl) (yaJ (MdR.same rfl) (yaJ (MdR.same rfl) (yaJ (MdR.same rfl) (yaJ (MdR.same rfl) (yaJ (MdR.same rfl) (yaJ (MdR.same rfl) (yaJ (MdR.same rfl) (yaJ ?_ (yaJ (MdR.begin_ _ _ _) (yaJ (MdR.same rfl) (MdR.reckon _ _ _))))))))))));cases yap (p.names[k]?.getD ⟨#[]⟩) s.letters<;>exact MdR.same rfl
theorem MdR.step {p:Img}{s s':MS}(h:yak p s=some s'):MdR s s':=by
 unfold yak at h;dsimp only at h;cases hb:(ofL (p.code[s.at_]?.getD ⟨0,0⟩).op).1.blocks with
 |true=>rw[hb]at h;exact MdR.wait h
 |false=>
  rw[hb]at h;simp only[znl]at h;cases he:(ofL (p.code[s.at_]?.getD ⟨0,0⟩).op).1.ends with
  |true=>rw[he]at h;cases h;exact MdR.end_ _ _ _
  |false=>
   rw[he]at h;simp only[znl]at h;cases hf:(ofL (p.code[s.at_]?.getD ⟨0,0⟩).op).1.flow with
   |true=>
    rw[hf]at h;cases h;cases((p.code[s.at_]?.getD ⟨0,0⟩).op==11)
    .cases ycE s.top<;>exact MdR.same rfl
    .exact MdR.same rfl
   |false=>
    rw[hf]at h;cases h;exact MdR.from_ (a:=s.nxt) rfl rfl (MdR.go _ _ _ _)
structure Ml (s:MS):Prop where
 last:∀c∈s.made.dropLast,yo2 c=false
 all:s.over=false->∀c∈s.made,yo2 c=false
theorem Ml.step {p:Img}{s s':MS}(M:Ml s)(ho:s.over=false)(h:yak p s=some s'):Ml s':=by
 obtain⟨l,B,E,D⟩:=MdR.step h;have C:=M.all ho
 match l,B,E,D with
 |[],B,_,_=>
  rw[List.append_nil]at B;exact⟨fun c A=>by rw[B]at A;exact C c (ydv A),fun _ c A=>by rw[B]at A;exact C c A⟩
 |[d],B,_,D=>
  refine⟨fun c A=>by rw[B,List.dropLast_concat]at A;exact C c A,fun ho' c A=> ?_⟩;rw[B]at A;rcases List.mem_append.1 A with A|A
  .exact C c A
  .rw[List.mem_singleton.1 A]
   cases he:yo2 d with
   |false=>rfl
   |true=>
    have:=(D d (List.mem_singleton.2 rfl)).2 he;rw[ho']at this;cases this
 |_::_::_,_,E,_=>simp at E
theorem yh5 {p:Img}(P:Pk p):∀(f:Nat) (s:MS),Vs s->Ml s->s.made.length+f<4611686018427387904->
  Vs (ya3 p f s)/\Ml (ya3 p f s)/\∃l,(ya3 p f s).made=s.made++l/\l.length<=f/\∀c∈l,c.time=s.now
 |0,s,V,M,_=>⟨V,M,[],by rw[List.append_nil];rfl,znc _,fun c hc=>by cases hc⟩
 |f+1,s,V,M,hf=>by
  by_cases ho:s.over=true
  .have e:ya3 p (f+1) s=s:=by rw[ya3,ho];rfl
   rw[e];exact⟨V,M,[],by rw[List.append_nil],znq _,fun c hc=>by cases hc⟩
  .have ho:s.over=false:=by simpa using ho
   cases hs:yak p s with
   |none=>
    have e:ya3 p (f+1) s=s:=by rw[ya3,ho,hs];rfl
    rw[e];exact⟨V,M,[],by rw[List.append_nil],znq _,fun c hc=>by cases hc⟩
   |some s'=>
    have e:ya3 p (f+1) s=ya3 p f {s' with steps:=s'.steps+1}:=by rw[ya3,ho,hs];rfl
    rw[e];obtain⟨l,B,O,I⟩:=MdR.step hs;have N:s'.made.length<=s.made.length+1:=by rw[B,znk];omega
    have A:=V.step P (by omega) hs;have J:Vs {s' with steps:=s'.steps+1}:=⟨A.stk,A.pls,A.inp,A.tms,A.acs,A.lts,A.mds,A.now,A.nt,A.na⟩;have C:=M.step ho hs;have K:Ml {s' with steps:=s'.steps+1}:=⟨C.last,C.all⟩;obtain⟨G,F,k,E,L,D⟩:=yh5 P f {s' with steps:=s'.steps+1} J K (by show s'.made.length+f<_;omega);have H:=(ybC hs).now;refine⟨G,F,l++k,by rw[E,<-List.append_assoc,<-B],by rw[znk];omega,fun c hc=> ?_⟩;rcases List.mem_append.1 hc with hc|hc
    .exact(I c hc).1
    .exact(D c hc).trans H
structure Nt where
 t:Int
 a:Int
 cs:List Int
def nt1 (n:Nt)(c:Cm):Nt:=if c.kind=1 then{n with t:=n.t+1}else if c.kind=3 then{n with a:=n.a+1}else if c.kind=2 then{n with cs:=c.a::n.cs}else n
def ok1 (n:Nt)(c:Cm):Prop:=if c.kind=1 then c.a=n.t+1 else if c.kind=3 then c.a=n.a+1 else if c.kind=2 then 1<=c.a/\c.a<=n.t/\c.a∉n.cs else True
def ntL:List Cm->Nt->Nt
 |[],n=>n
 |c::r,n=>ntL r (nt1 n c)
def okL:List Cm->Nt->Prop
 |[],_=>True
 |c::r,n=>ok1 n c/\okL r (nt1 n c)
theorem yke:∀(l r:List Cm) (n:Nt),ntL (l++r) n=ntL r (ntL l n)
 |[],_,_=>rfl
 |c::l,r,n=>by rw[List.cons_append,ntL,ntL];exact yke l r _
theorem yej:∀(l r:List Cm) (n:Nt),okL l n->okL r (ntL l n)->okL (l++r) n
 |[],_,_,_,h=>h
 |c::l,r,n,h1,h2=>by rw[List.cons_append,okL];exact⟨h1.1,yej l r _ h1.2 h2⟩
def nt0:Nt:=⟨0,0,[]⟩
theorem yb1 (l:List Cm)(c:Cm)(n:Nt):ntL (l++[c]) n=nt1 (ntL l n) c:=by rw[yke];rfl
theorem yor:∀(l:List Cm) (n:Nt),okL l n->(∀k∈n.cs,k<=n.t)->∀k∈(ntL l n).cs,k<=(ntL l n).t
 |[],_,_,h=>h
 |c::r,n,ho,h=>by
  rw[ntL];refine yor r _ ho.2 ?_;have h1:=ho.1;unfold ok1 at h1;unfold nt1;by_cases e1:c.kind=1
  .rw[if_pos e1]
   exact fun k hk=>by have:=h k hk;show k<=n.t+1;omega
  .rw[if_neg e1]at h1|-
   by_cases e3:c.kind=3
   .rw[if_pos e3];exact h
   .rw[if_neg e3]at h1|-
    by_cases e2:c.kind=2
    .rw[if_pos e2]at h1|-
     intro k hk;rcases List.mem_cons.1 hk with rfl|hk
     .exact h1.2.1
     .exact h k hk
    .rw[if_neg e2];exact h
structure Nm (s:MS):Prop where
 ok:okL s.made nt0
 t:(ntL s.made nt0).t=s.timers.next
 a:(ntL s.made nt0).a=s.acts.next
 nodup:(s.timers.list.map (·.id)).Nodup
 ids:∀x∈s.timers.list,1<=x.id/\x.id<=s.timers.next/\x.id∉ (ntL s.made nt0).cs
theorem Nm.of {s s':MS}(N:Nm s)(h1:s'.made=s.made)(h2:s'.timers.next=s.timers.next)(h3:s'.acts.next=s.acts.next)(h4:(s'.timers.list.map (·.id)).Sublist (s.timers.list.map (·.id))):Nm s':=by
 refine⟨by rw[h1];exact N.ok,by rw[h1,h2];exact N.t,by rw[h1,h3];exact N.a,h4.nodup N.nodup,fun x hx=> ?_⟩;have hm:=h4.subset (List.mem_map.2 ⟨x,hx,rfl⟩);obtain⟨y,A,B⟩:=List.mem_map.1 hm;have:=N.ids y A;rw[h1,h2,<-B];exact this
theorem Nm.same {s s':MS}(N:Nm s)(h1:s'.made=s.made)(h2:s'.timers=s.timers)(h3:s'.acts.next=s.acts.next):Nm s':=N.of h1 (by rw[h2]) h3 (by rw[h2];exact List.Sublist.refl _)
theorem Nm.erase {s s':MS}(N:Nm s)(i:Nat)(h1:s'.made=s.made)(h2:s'.timers=⟨s.timers.list.eraseIdx i,s.timers.next⟩)(h3:s'.acts.next=s.acts.next):Nm s':=N.of h1 (by rw[h2]) h3 (by rw[h2];exact(List.eraseIdx_sublist _ _).map _)
theorem Nm.want {s:MS}(N:Nm s)(c:Cm)(hk:4<=c.kind):Nm (s.want c):=by
 have e:∀(n:Nt) (c':Cm),c'.kind=c.kind->nt1 n c'=n:=fun n c' h=>by
  unfold nt1;rw[if_neg (by omega),if_neg (by omega),if_neg (by omega)]
 have hm:ntL (s.want c).made nt0=ntL s.made nt0:=by
  show ntL (s.made++[_]) nt0=_;rw[yb1];exact e _ _ rfl
 refine⟨?_,by rw[hm];exact N.t,by rw[hm];exact N.a,N.nodup,fun x hx=>by rw[hm];exact N.ids x hx⟩;refine yej _ _ _ N.ok ⟨?_,trivial⟩;unfold ok1;have A:4<=({c with time:=s.now,v:=yab c.v}:Cm).kind:=hk;rw[if_neg (by omega),if_neg (by omega),if_neg (by omega)]
 trivial
theorem Nm.fall {s:MS}(N:Nm s)(why:ByteArray):Nm (s.fall why):=Nm.want (s:={s with trap:=why}) (N.same rfl rfl rfl) _ (by show(4:Int)<=5;decide)
theorem Nm.put {s:MS}(N:Nm s)(v:Val):Nm (s.put v):=by
 unfold MS.put;split
 .exact N.fall _
 .exact N.same rfl rfl rfl
theorem Nm.arith {s:MS}(N:Nm s)(op:Int)(a b:Val):Nm (s.arith op a b):=by
 unfold MS.arith;split
 .exact N.fall _
 .exact N.same rfl rfl rfl
theorem yaz {a b:MS}{c:Prop}[Decidable c](ha:Nm a)(hb:Nm b):Nm (if c then a else b):=by
 split
 .exact ha
 .exact hb
theorem Nm.push {s:MS}(N:Nm s)(v:Val):Nm (s.push v):=N.same rfl rfl rfl
theorem Nm.pop {s:MS}(N:Nm s):Nm s.pop:=N.same rfl rfl rfl
theorem Nm.two {s:MS}(N:Nm s)(op:Int)(a b:Val):Nm (s.two op a b):=by
 unfold MS.two;exact yaz (N.push _) (yaz (N.push _) (yaz (yaz (N.fall _) (N.push _)) (yaz (yaz (N.put _) (yaz (N.put _) (N.fall _))) (N.arith _ _ _))))
theorem Nm.reckon {s:MS}(N:Nm s)(op:Int)(k:Nat):Nm (s.reckon op k):=by
 unfold MS.reckon;exact yaz (Nm.put (s:={s with stk:=s.stk.take (s.stk.length - k)}) (N.same rfl rfl rfl) _) (yaz (N.pop.push _) (yaz (yaz (N.pop.push _) (yaz (N.pop.push _) (N.pop.fall _))) (N.pop.pop.two _ _ _)))
theorem Nm.begin_ {s:MS}(N:Nm s)(op:Int)(name:ByteArray):Nm (s.begin_ op name):=by
 unfold MS.begin_;dsimp only;refine yaz ?_ (yaz (N.pop.fall _) (yaz (N.pop.fall _) (yaz ?_ ?_)))
 .split
  .exact N.pop.fall _
  .rename_i i G
   have F:yav s.top.num s.timers.list=some i:=by
    split at G
    .exact G
    .cases G
   obtain⟨x,C,D⟩:=Go.Va.findT_some F;rw[C];dsimp only[Option.getD];cases x.over with
   |true=>exact Nm.erase (s:=s) N i rfl rfl rfl
   |false=>
    have L:=N.ids x (zmg C);have S:i<s.timers.list.length:=(zge C).1;have O:∀y∈s.timers.list.eraseIdx i,y.id≠x.id:=by
     intro y A M;obtain⟨j,E,I⟩:=List.mem_eraseIdx_iff_getElem?.1 A;have Q:(s.timers.list.map (·.id))[i]? =some x.id:=by rw[List.getElem?_map,C];rfl
     have P:(s.timers.list.map (·.id))[j]? =some x.id:=by rw[List.getElem?_map,I,<-M];rfl
     exact E ((List.getElem?_inj (by rw[zmd];exact(zge I).1) N.nodup).1 (P.trans Q.symm))
    refine⟨?_,?_,?_,?_,fun y A=> ?_⟩
    .refine yej _ _ _ N.ok ⟨?_,trivial⟩
     show 1<=s.top.num/\s.top.num<=(ntL s.made nt0).t/\s.top.num∉ (ntL s.made nt0).cs;rw[N.t,<-D];exact L
    .show(ntL (s.made++[⟨2,s.now,s.top.num,0,⟨#[]⟩,yab yag⟩]) nt0).t=s.timers.next
     rw[yb1];exact N.t
    .show(ntL (s.made++[⟨2,s.now,s.top.num,0,⟨#[]⟩,yab yag⟩]) nt0).a=s.acts.next
     rw[yb1];exact N.a
    .exact((List.eraseIdx_sublist _ _).map _).nodup N.nodup
    .have A:y∈s.timers.list.eraseIdx i:=A
     have B:=N.ids y (List.mem_of_mem_eraseIdx A);refine⟨B.1,B.2.1,?_⟩;show y.id∉ (ntL (s.made++[⟨2,s.now,s.top.num,0,⟨#[]⟩,yab yag⟩]) nt0).cs;rw[yb1];intro h;have h:y.id∈s.top.num::(ntL s.made nt0).cs:=h;rcases List.mem_cons.1 h with h|h
     .exact O y A (by rw[h,D])
     .exact B.2.2 h
 .refine⟨?_,?_,?_,N.nodup,fun y A=> ?_⟩
  .refine yej _ _ _ N.ok ⟨?_,trivial⟩
   show s.acts.next+1=(ntL s.made nt0).a+1;rw[N.a]
  .show(ntL (s.made++[⟨3,s.now,s.acts.next+1,s.top.num,name,yab s.pop.top⟩]) nt0).t=s.timers.next
   rw[yb1];exact N.t
  .show(ntL (s.made++[⟨3,s.now,s.acts.next+1,s.top.num,name,yab s.pop.top⟩]) nt0).a=s.acts.next+1
   rw[yb1];show(ntL s.made nt0).a+1=_;rw[N.a]
  .have B:=N.ids y A
   refine⟨B.1,B.2.1,?_⟩;show y.id∉ (ntL (s.made++[⟨3,s.now,s.acts.next+1,s.top.num,name,yab s.pop.top⟩]) nt0).cs;rw[yb1];exact B.2.2
 .have H:s.timers.next+1∉ (ntL s.made nt0).cs:=fun h=>by
   have:=yor s.made nt0 N.ok (fun k hk=>by cases hk) _ h;rw[N.t]at this;omega
  refine⟨?_,?_,?_,?_,fun y A=> ?_⟩
  .refine yej _ _ _ N.ok ⟨?_,trivial⟩
   show s.timers.next+1=(ntL s.made nt0).t+1;rw[N.t]
  .show(ntL (s.made++[⟨1,s.now,s.timers.next+1,s.top.num,⟨#[]⟩,yab yag⟩]) nt0).t=s.timers.next+1
   rw[yb1];show(ntL s.made nt0).t+1=_;rw[N.t]
  .show(ntL (s.made++[⟨1,s.now,s.timers.next+1,s.top.num,⟨#[]⟩,yab yag⟩]) nt0).a=s.acts.next
   rw[yb1];exact N.a
  .show((s.timers.list++[_]).map Th.id).Nodup
   rw[List.map_append];refine List.nodup_append.2 ⟨N.nodup,by simp,fun x C y A e=> ?_⟩;obtain⟨z,K,J⟩:=List.mem_map.1 C;have B:=N.ids z K;have A:y=s.timers.next+1:=by simpa using A
   omega
  .show 1<=y.id/\y.id<=s.timers.next+1/\y.id∉ (ntL (s.made++[⟨1,s.now,s.timers.next+1,s.top.num,⟨#[]⟩,yab yag⟩]) nt0).cs
   rw[yb1];show 1<=y.id/\y.id<=s.timers.next+1/\y.id∉ (ntL s.made nt0).cs;rcases List.mem_append.1 A with A|A
   .have B:=N.ids y A
    exact⟨B.1,by omega,B.2.2⟩
   .rw[List.mem_singleton.1 A]
    refine⟨?_,Int.le_refl _,H⟩;show 1<=s.timers.next+1;have:=N.t;have R:∀(l:List Cm) (n:Nt),0<=n.t->0<=(ntL l n).t:=fun l=>by
     induction l with
     |nil=>exact fun n h=>h
     |cons c r ih=>
      intro n h;rw[ntL];refine ih _ ?_;unfold nt1
      repeat' split
      all_goals first|exact h|(show 0<=n.t+1;omega)
    have:=R s.made nt0 (Int.le_refl _);omega
theorem Nm.wait {s s':MS}(N:Nm s){op:Int}{name:ByteArray}(h:s.wait op name=some s'):Nm s':=by
 unfold MS.wait at h;split at h
 .cases hf:yap name s.letters with
  |none=>rw[hf]at h;cases h
  |some i=>rw[hf]at h;cases h;exact N.same rfl rfl rfl
 .dsimp only at h
  split at h
  .cases h;exact N.fall _
  .split at h
   .cases h;exact N.same rfl rfl rfl
   .rename_i i _ _ _
    cases hov:((if op=21 then s.acts.list else s.timers.list)[i]?.getD ⟨0,false,yag,0⟩).over with
    |false=>rw[hov]at h;cases h
    |true=>
     rw[hov]at h;simp only[Bool.not_true,znl,Option.some.injEq]at h;rw[<-h];by_cases h21:op=21
     .rw[if_pos h21]
      by_cases h18:op=18
      .rw[if_pos h18];exact N.same rfl rfl rfl
      .rw[if_neg h18,if_pos h21];exact N.same rfl rfl rfl
     .rw[if_neg h21,if_neg h21]
      by_cases h18:op=18
      .rw[if_pos h18];exact N.erase i rfl rfl rfl
      .rw[if_neg h18,if_neg h21];exact N.erase i rfl rfl rfl
theorem Nm.end_ {s:MS}(N:Nm s)(op:Int)(name:ByteArray):Nm (s.end_ op name):=by
 unfold MS.end_;exact yaz (N.pop.want _ (by show(4:Int)<=4;decide)) (yaz (N.pop.want _ (by show(4:Int)<=6;decide)) (N.want _ (by show(4:Int)<=5;decide)))
theorem Nm.go {s:MS}(N:Nm s)(p:Img)(op:Int)(k:Nat):Nm (s.go p op k):=by
 unfold MS.go;dsimp only;refine yaz (N.push _) (yaz N.pop (yaz (N.push _) (yaz (N.same rfl rfl rfl) (yaz (N.push _) (yaz (N.same rfl rfl rfl) (yaz (N.push _) (yaz (N.push _) (yaz (N.push _) (yaz ?_ (yaz (N.begin_ _ _) (yaz N (N.reckon _ _))))))))))));cases yap (p.names[k]?.getD ⟨#[]⟩) s.letters<;>exact N.same rfl rfl rfl
theorem Nm.step {p:Img}{s s':MS}(N:Nm s)(h:yak p s=some s'):Nm s':=by
 unfold yak at h;dsimp only at h;cases hb:(ofL (p.code[s.at_]?.getD ⟨0,0⟩).op).1.blocks with
 |true=>rw[hb]at h;exact N.wait h
 |false=>
  rw[hb]at h;simp only[znl]at h;cases he:(ofL (p.code[s.at_]?.getD ⟨0,0⟩).op).1.ends with
  |true=>rw[he]at h;cases h;exact N.end_ _ _
  |false=>
   rw[he]at h;simp only[znl]at h;cases hf:(ofL (p.code[s.at_]?.getD ⟨0,0⟩).op).1.flow with
   |true=>
    rw[hf]at h;cases h;cases((p.code[s.at_]?.getD ⟨0,0⟩).op==11)
    .cases ycE s.top<;>exact N.same rfl rfl rfl
    .exact N.same rfl rfl rfl
   |false=>
    rw[hf]at h;cases h;exact Nm.go (s:=s.nxt) (N.same rfl rfl rfl) _ _ _
theorem Nm.run {p:Img}:∀(f:Nat) (s:MS),Nm s->Nm (ya3 p f s)
 |0,_,N=>N
 |f+1,s,N=>by
  by_cases ho:s.over=true
  .have e:ya3 p (f+1) s=s:=by rw[ya3,ho];rfl
   rw[e];exact N
  .have ho:s.over=false:=by simpa using ho
   cases hs:yak p s with
   |none=>
    have e:ya3 p (f+1) s=s:=by rw[ya3,ho,hs];rfl
    rw[e];exact N
   |some s'=>
    have e:ya3 p (f+1) s=ya3 p f {s' with steps:=s'.steps+1}:=by rw[ya3,ho,hs];rfl
    rw[e];exact Nm.run f _ ((N.step hs).same rfl rfl rfl)
theorem ykw (id how:Int)(v:Val):∀l:List Th,(ycA id how v l).map (·.id)=l.map (·.id)
 |[]=>rfl
 |x::r=>by
  rw[ycA];split
  .cases x.over<;>rfl
  .rw[List.map_cons,List.map_cons,ykw id how v r]
theorem Nm.hear {s:MS}(N:Nm s)(e:Ev):Nm (hear s e):=by
 unfold Go.Va.hear;exact yaz (N.same rfl rfl rfl) (yaz (N.of rfl rfl rfl (by show((ycA e.a 1 yag s.timers.list).map (·.id)).Sublist _;rw[ykw];exact List.Sublist.refl _)) (yaz (N.same rfl rfl rfl) (yaz (N.same rfl rfl rfl) (yaz (N.same rfl rfl rfl) (yaz (N.same rfl rfl rfl) (yaz (N.same rfl rfl rfl) (N.same rfl rfl rfl)))))))
theorem Nm.apply {p:Img}{s:MS}(N:Nm s)(e:Ev):Nm (yat p s e).2:=by
 unfold yat;split
 .exact N
 .split
  .exact N
  .split
   .exact N
   .exact Nm.run _ _ (Nm.hear (s:={s with now:=e.time,steps:=0,events:=s.events+1}) (N.same rfl rfl rfl) e)
theorem nm0 (p:Img):Nm (ms0 p):=⟨trivial,rfl,rfl,List.nodup_nil,fun x hx=>by cases hx⟩
theorem ya1 {e:Ev}(h:yae e=0):(0<=e.time/\e.time<=4611686018427387903)/\1<=e.id/\e.id<=1048576/\0<=e.a/\0<=e.b/\e.name.size<=64/\e.text.size<=128/\checkL e.v=0:=by
 unfold yae at h;split at h
 .cases h
 .split at h
  .cases h
  .split at h
   .cases h
   .split at h
    .cases h
    .split at h
     .cases h
     .split at h
      .cases h
      .exact⟨by omega,by omega,by omega,by omega,by omega,by omega,by omega,h⟩
theorem yhg {id how:Int}{v:Val}{P:Th->Prop}:∀{l:List Th},(∀x∈l,P x)->(∀x∈l,P ⟨x.id,true,yab v,how⟩)->∀x∈ycA id how v l,P x
 |[],_,_,x,hx=>by cases hx
 |y::r,h1,h2,x,hx=>by
  rw[ycA]at hx;split at hx
  .cases hy:y.over with
   |true=>
    rw[hy]at hx;exact h1 x hx
   |false=>
    rw[hy]at hx;rcases List.mem_cons.1 hx with rfl|hx
    .exact h2 y zmf
    .exact h1 x (zme _ hx)
  .rcases List.mem_cons.1 hx with rfl|hx
   .exact h1 x zmf
   .exact yhg (fun z hz=>h1 z (zme _ hz)) (fun z hz=>h2 z (zme _ hz)) x hx
theorem Vs.end1 {s:MS}(V:Vs s)(id how:Int){v:Val}(hv:Okv v)(hh: -1<=how/\how<=1):Vs {s with timers:=⟨ycA id how v s.timers.list,s.timers.next⟩}:=
 ⟨V.stk,V.pls,V.inp,yhg V.tms (fun x hx=>⟨ybd hv,hh.1,hh.2,(V.tms x hx).2.2.2⟩),V.acs,V.lts,V.mds,V.now,V.nt,V.na⟩
theorem Vs.end2 {s:MS}(V:Vs s)(id how:Int){v:Val}(hv:Okv v)(hh: -1<=how/\how<=1):Vs {s with acts:=⟨ycA id how v s.acts.list,s.acts.next⟩}:=
 ⟨V.stk,V.pls,V.inp,V.tms,yhg V.acs (fun x hx=>⟨ybd hv,hh.1,hh.2,(V.acs x hx).2.2.2⟩),V.lts,V.mds,V.now,V.nt,V.na⟩
theorem Vs.hear {s:MS}(V:Vs s){e:Ev}(h:yae e=0)(hw:e.v.wf):Vs (hear s e):=by
 obtain⟨_,_,_,_,_,C,_,D⟩:=ya1 h;have B:Okv e.v:=⟨D,hw⟩;unfold Go.Va.hear;refine ya6 (fun _=>⟨V.stk,V.pls,ybd B,V.tms,V.acs,V.lts,V.mds,V.now,V.nt,V.na⟩) (fun _=>ya6 (fun _=>V.end1 _ _ yb6 (by decide)) (fun _=>ya6 (fun _=>V.end2 _ _ B (by decide)) (fun _=>ya6 (fun _=>V.end2 _ _ (ym3 C) (by decide)) (fun _=>ya6 (fun _=>V.end2 _ _ yb6 (by decide)) (fun _=>ya6 (fun _=> ?_) (fun _=>ya6 (fun _=>⟨V.stk,V.pls,V.inp,V.tms,V.acs,V.lts,V.mds,V.now,V.nt,V.na⟩) (fun _=>⟨V.stk,V.pls,V.inp,V.tms,V.acs,V.lts,V.mds,V.now,V.nt,V.na⟩)))))));refine⟨V.stk,V.pls,V.inp,V.tms,V.acs,fun y A=> ?_,V.mds,V.now,V.nt,V.na⟩;rcases List.mem_append.1 A with A|A
 .exact V.lts y A
 .rw[List.mem_singleton.1 A]
  exact⟨ybd B,C⟩
theorem yem (s:MS)(e:Ev):(hear s e).made=s.made/\(hear s e).now=s.now/\((hear s e).over=false->s.over=false):=by
 unfold hear
 repeat' split
 all_goals first|exact⟨rfl,rfl,fun h=>h⟩|exact⟨rfl,rfl,fun h=>by cases h⟩
theorem yjv {p:Img}(P:Pk p){s:MS}(V:Vs s)(M:Ml s)(e:Ev)(hw:e.v.wf){N:Nat}(hN:s.over=false->pot s<=N)(hb:s.made.length+(p.code.length+1)*(N+2)<4611686018427387904):
  Vs (yat p s e).2/\Ml (yat p s e).2/\∃l,(yat p s e).2.made=s.made++l/\l.length<=(p.code.length+1)*(N+2)/\((yat p s e).1≠0->l=[])/\∀c∈l,c.time=e.time:=by
 have D:Vs s/\Ml s/\∃l:List Cm,s.made=s.made++l/\l.length<=(p.code.length+1)*(N+2)/\(∀k:Int,k≠0->l=[])/\∀c∈l,c.time=e.time:=⟨V,M,[],by rw[List.append_nil],znq _,fun _ _=>rfl,fun c B=>by cases B⟩;unfold yat;split
 .obtain⟨K,J,l,I,H,G,F⟩:=D
  exact⟨K,J,l,I,H,G _,F⟩
 .rename_i B
  have E:yae e=0:=by
   by_cases h:yae e=0
   .exact h
   .exact absurd (.inl h) B
  split
  .obtain⟨K,J,l,I,H,G,F⟩:=D
   exact⟨K,J,l,I,H,G _,F⟩
  .rename_i L
   have L:s.over=false:=by simpa using L
   split
   .obtain⟨K,J,l,I,H,G,F⟩:=D
    exact⟨K,J,l,I,H,G _,F⟩
   .obtain⟨s0,A⟩:∃s0:MS,s0={s with now:=e.time,steps:=0,events:=s.events+1}:=⟨_,rfl⟩
    rw[<-A];have a:Vs s0:=by rw[A];exact⟨V.stk,V.pls,V.inp,V.tms,V.acs,V.lts,V.mds,(ya1 E).1,V.nt,V.na⟩
    have C:s0.made=s.made:=by rw[A]
    have Q:s0.now=e.time:=by rw[A]
    have W:pot s0=pot s:=by rw[A];rfl
    obtain⟨O,Y,g⟩:=yem s0 e;have Z:=a.hear E hw;have b:Ml (hear s0 e):=⟨fun c B=>by rw[O,C]at B;exact M.last c B,fun _ c B=>by rw[O,C]at B;exact M.all L c B⟩;have f:=(ydO s0 e).1;have X:fuel p (hear s0 e)<=(p.code.length+1)*(N+2):=Nat.mul_le_mul_left _ (by have:=hN L;omega);obtain⟨U,T,l,S,d,R⟩:=yh5 P (fuel p (hear s0 e)) (hear s0 e) Z b (by rw[O,C];omega);exact⟨U,T,l,by show(ya3 p _ _).made=_;rw[S,O,C],by omega,fun h=>absurd rfl h,fun c B=>by rw[R c B,Y,Q]⟩
theorem vs0 {p:Img}:Vs (ms0 p):=⟨fun x hx=>(by cases hx),fun x hx=>(by rw[List.eq_of_mem_replicate hx];exact yb6),yb6,fun x hx=>(by cases hx),fun x hx=>(by cases hx),fun x hx=>(by cases hx),fun x hx=>(by cases hx),⟨Int.le_refl _,by show(0:Int)<=4611686018427387903;decide⟩,⟨Int.le_refl _,Int.le_refl _⟩,⟨Int.le_refl _,Int.le_refl _⟩⟩
theorem ml0 {p:Img}:Ml (ms0 p):=⟨fun x hx=>(by cases hx),fun _ x hx=>(by cases hx)⟩
def ygS (now ticks:Int):Int:=if now<0\/ticks<0 then 0 else if 4611686018427387903<=now\/4611686018427387903 - now<ticks then 4611686018427387903 else now+ticks
def evOfC (c:Cm):Ev:=
 if c.kind=1 then⟨0,c.time,11,c.a,ygS c.time c.b,⟨#[]⟩,⟨#[]⟩,yag⟩else
 if c.kind=2 then⟨0,c.time,13,c.a,0,⟨#[]⟩,⟨#[]⟩,yag⟩else
 if c.kind=3 then⟨0,c.time,7,c.a,c.b,c.name,⟨#[]⟩,yab c.v⟩else
 if c.kind=4 then⟨0,c.time,16,0,0,⟨#[]⟩,⟨#[]⟩,yab c.v⟩else
 if c.kind=5 then⟨0,c.time,17,0,0,c.name,⟨#[]⟩,yag⟩else
 if c.kind=6 then⟨0,c.time,21,0,0,⟨#[]⟩,⟨#[]⟩,yab c.v⟩else⟨0,c.time,0,0,0,⟨#[]⟩,⟨#[]⟩,yag⟩
def ydG (c:Cm)(e:Ev):Bool:=
 let w:=evOfC c
 (w.kind !=0)&&((w.time==e.time)&&((w.kind==e.kind)&&((w.a==e.a)&&(((bif w.kind==21 then e.b else w.b)==e.b)&&(decide (w.name=e.name)&&(decide (w.text=e.text)&&(cmpV w.v e.v==0)))))))
def yaX (k:Int):Bool:=decide (k=11\/k=13\/k=7\/k=16\/k=17\/k=21)
def yaS (k:Int):Bool:=decide (16<=k/\k<=21)
structure RP where
 m:MS
 seen:Nat
 next:Nat
 fired:List Int
 closed:Bool
 err:Int
def yaU (fired:List Int)(c:Cm):Bool:=(c.kind==2)&&decide (c.a∈fired)
def ybi (fired:List Int):List Cm->Nat->Nat
 |[],n=>n
 |c::r,n=>bif yaU fired c then ybi fired r (n+1)else n
def ybK (p:Img)(r:RP)(e:Ev):Int×RP:=
 if yae e≠0 then(9,r)else
 if e.id≠(r.seen:Int)+1 then(180,r)else
 if r.closed=true then(181,r)else
 if(r.seen=0/\e.kind≠1)\/(r.seen≠0/\e.kind=1)then(7,r)else
 if yaI e.kind=true then(0,{r with m:=(yat p r.m e).2,seen:=r.seen+1,fired:=if e.kind=12 then e.a::r.fired else r.fired,closed:=yaS e.kind})else
 if yaX e.kind=true then
  let n:=ybi r.fired (r.m.made.drop r.next) r.next
  match r.m.made[n]? with
  |none=>(150,{r with seen:=r.seen+1,next:=n})
  |some c=>if ydG c e=true then(0,{r with seen:=r.seen+1,next:=n+1,closed:=yaS e.kind})else(150,{r with seen:=r.seen+1,next:=n})
 else(0,{r with seen:=r.seen+1,closed:=yaS e.kind})
def yan (p:Img):RP->List Ev->RP
 |r,[]=>r
 |r,e::l=>bif r.err !=0 then r else yan p {(ybK p r e).2 with err:=(ybK p r e).1} l
def rp0 (p:Img):RP:=⟨ms0 p,0,0,[],false,0⟩
def ybJ (r:RP):List Cm:=bif (r.err !=0)||r.closed then[]else(r.m.made.drop r.next).filter (fun c=> !yaU r.fired c)
def ycm (r:RP)(e:Ev):Int:=
 if yae e≠0 then 9 else if e.id≠(r.seen:Int)+1 then 180 else if r.closed=true then 181 else if(r.seen=0/\e.kind≠1)\/(r.seen≠0/\e.kind=1)then 7 else 0
theorem yfr {p:Img}{r:RP}{e:Ev}(h:ycm r e≠0):ybK p r e=(ycm r e,r):=by
 unfold ybK;unfold ycm at h|-;split
 .rfl
 .split
  .rfl
  .split
   .rfl
   .split
    .rfl
    .rename_i D C B A
     rw[if_neg D,if_neg C,if_neg B,if_neg A]at h;exact absurd rfl h
def opn (s:MS):Nat:=s.timers.list.length+s.acts.list.length
def LmR (s s':MS):Prop:=(opn s<=64->opn s'<=64)/\s'.letters.length<=s.letters.length
theorem LmR.same {s s':MS}(h1:s'.timers.list=s.timers.list)(h2:s'.acts.list=s.acts.list)(h3:s'.letters=s.letters):LmR s s':=by
 unfold LmR opn;rw[h1,h2,h3];exact⟨fun h=>h,znc _⟩
theorem LmR.nxt {s a:MS}(h:LmR s a):LmR s a.nxt:=h
theorem LmR.same2 {a s s':MS}(h:LmR a s)(h1:s'.timers.list=s.timers.list)(h2:s'.acts.list=s.acts.list)(h3:s'.letters=s.letters):LmR a s':=by
 unfold LmR opn at h|-;rw[h1,h2,h3];exact h
theorem LmR.put (s:MS)(v:Val):LmR s (s.put v):=by
 unfold MS.put;split<;>exact LmR.same rfl rfl rfl
theorem LmR.arith (s:MS)(op:Int)(a b:Val):LmR s (s.arith op a b):=by
 unfold MS.arith;split<;>exact LmR.same rfl rfl rfl
theorem ybs {s a b:MS}{c:Prop}[Decidable c](ha:LmR s a)(hb:LmR s b):LmR s (if c then a else b):=by
 split
 .exact ha
 .exact hb
theorem LmR.two (s:MS)(op:Int)(a b:Val):LmR s (s.two op a b):=by
 unfold MS.two;exact ybs (LmR.same rfl rfl rfl) (ybs (LmR.same rfl rfl rfl) (ybs (ybs (LmR.same rfl rfl rfl) (LmR.same rfl rfl rfl)) (ybs (ybs (LmR.put _ _) (ybs (LmR.put _ _) (LmR.same rfl rfl rfl))) (LmR.arith _ _ _ _))))
theorem LmR.reckon (s:MS)(op:Int)(k:Nat):LmR s (s.reckon op k):=by
 unfold MS.reckon;exact ybs (LmR.put {s with stk:=s.stk.take (s.stk.length - k)} _) (ybs (LmR.same rfl rfl rfl) (ybs (ybs (LmR.same rfl rfl rfl) (ybs (LmR.same rfl rfl rfl) (LmR.same rfl rfl rfl))) (LmR.two s.pop.pop _ _ _)))
theorem LmR.begin_ (s:MS)(op:Int)(name:ByteArray):LmR s (s.begin_ op name):=by
 unfold MS.begin_;dsimp only;split
 .split
  .exact LmR.same rfl rfl rfl
  .rename_i i _
   have C:=List.length_eraseIdx_le s.timers.list i;have A:LmR s {s.pop with timers:=⟨s.timers.list.eraseIdx i,s.timers.next⟩}:=⟨fun h=>by have h:s.timers.list.length+s.acts.list.length<=64:=h;show(s.timers.list.eraseIdx i).length+s.acts.list.length<=64;omega,znc _⟩;cases(s.timers.list[i]?.getD ⟨0,false,yag,0⟩).over<;>exact A
 .split
  .exact LmR.same rfl rfl rfl
  .split
   .exact LmR.same rfl rfl rfl
   .rename_i B
    split
    .refine⟨fun _=> ?_,znc _⟩
     show s.timers.list.length+(s.acts.list++[_]).length<=64;rw[znk,zmh];omega
    .refine⟨fun _=> ?_,znc _⟩
     show(s.timers.list++[_]).length+s.acts.list.length<=64;rw[znk,zmh];omega
theorem LmR.wait {s s':MS}{op:Int}{name:ByteArray}(h:s.wait op name=some s'):LmR s s':=by
 have A:∀i,LmR s (s.openL i):=fun i=>⟨fun h=>h,List.length_eraseIdx_le _ _⟩;unfold MS.wait at h;split at h
 .cases hf:yap name s.letters with
  |none=>rw[hf]at h;cases h
  |some i=>rw[hf]at h;cases h;exact A i
 .dsimp only at h
  split at h
  .cases h;exact LmR.same rfl rfl rfl
  .split at h
   .rename_i k _
    cases h;exact A k
   .rename_i i _ _ _
    cases hov:((if op=21 then s.acts.list else s.timers.list)[i]?.getD ⟨0,false,yag,0⟩).over with
    |false=>rw[hov]at h;cases h
    |true=>
     rw[hov]at h;simp only[Bool.not_true,znl,Option.some.injEq]at h;have B:LmR s (if op=21 then{s.pop with acts:=⟨(if op=21 then s.acts.list else s.timers.list).eraseIdx i,s.acts.next⟩}else{s.pop with timers:=⟨(if op=21 then s.acts.list else s.timers.list).eraseIdx i,s.timers.next⟩}):=by
      have E:=List.length_eraseIdx_le s.timers.list i;have D:=List.length_eraseIdx_le s.acts.list i;split
      .rename_i C
       refine⟨fun h=> ?_,znc _⟩;have h:s.timers.list.length+s.acts.list.length<=64:=h;show s.timers.list.length+(s.acts.list.eraseIdx i).length<=64;omega
      .rename_i C
       refine⟨fun h=> ?_,znc _⟩;have h:s.timers.list.length+s.acts.list.length<=64:=h;show(s.timers.list.eraseIdx i).length+s.acts.list.length<=64;omega
     rw[<-h];exact LmR.nxt (ybs (LmR.same2 B rfl rfl rfl) (ybs (LmR.same2 B rfl rfl rfl) (LmR.same2 B rfl rfl rfl)))
theorem LmR.end_ (s:MS)(op:Int)(name:ByteArray):LmR s (s.end_ op name):=by
 unfold MS.end_;exact ybs (LmR.same rfl rfl rfl) (ybs (LmR.same rfl rfl rfl) (LmR.same rfl rfl rfl))
theorem LmR.go (s:MS)(p:Img)(op:Int)(k:Nat):LmR s (s.go p op k):=by
 unfold MS.go;dsimp only
 repeat' (first|exact LmR.begin_ _ _ _|exact LmR.reckon _ _ _|refine ybs ?_ ?_)
 all_goals try(cases yap (p.names[k]?.getD ⟨#[]⟩) s.letters)
 all_goals first|exact LmR.same rfl rfl rfl|exact LmR.begin_ _ _ _|exact LmR.reckon _ _ _|exact⟨fun h=>h,List.length_eraseIdx_le _ _⟩
theorem LmR.step {p:Img}{s s':MS}(h:yak p s=some s'):LmR s s':=by
 unfold yak at h;dsimp only at h;cases hb:(ofL (p.code[s.at_]?.getD ⟨0,0⟩).op).1.blocks with
 |true=>rw[hb]at h;exact LmR.wait h
 |false=>
  rw[hb]at h;simp only[znl]at h;cases he:(ofL (p.code[s.at_]?.getD ⟨0,0⟩).op).1.ends with
  |true=>rw[he]at h;cases h;exact LmR.end_ _ _ _
  |false=>
   rw[he]at h;simp only[znl]at h;cases hf:(ofL (p.code[s.at_]?.getD ⟨0,0⟩).op).1.flow with
   |true=>
    rw[hf]at h;cases h;cases((p.code[s.at_]?.getD ⟨0,0⟩).op==11)
    .cases ycE s.top<;>exact LmR.same rfl rfl rfl
    .exact LmR.same rfl rfl rfl
   |false=>
    rw[hf]at h;cases h;exact LmR.go s.nxt _ _ _
theorem ycZ {x:Val}(h:Okv x):szV x<=20000:=by
 have B:=ygr h.1;have A:=yd3 x;omega
theorem ymw {x:Val}(h:Okv x)(hk:x.kind=2):x.txt.size<=256:=by
 cases x with
 |mk k n s l=>
  have hk:k=2:=hk;subst hk;have A:=(ybl.1 h.1).1;rw[yal]at A;have A:(bif decide (256<s.size)then(2:Int)else 0)=0:=A;show s.size<=256;by_cases e:256<s.size
  .rw[zno e]at A;cases A
  .omega
theorem ye2:∀l k:List Val,szV.szL (l++k)=szV.szL l+szV.szL k
 |[],k=>by rw[List.nil_append,szV.szL];omega
 |x::l,k=>by rw[List.cons_append,szV.szL,szV.szL,ye2 l k];omega
theorem ymx {x:Val}(h:Okv x)(hk:x.kind=3):szV.szL x.list<=20000:=by
 have A:=ycZ h;rw[yds,show(x.kind==2)=false by rw[hk];rfl,show(x.kind==3)=true by rw[hk];rfl]at A;simp only[znm,znl]at A;omega
structure Rk (p:Img)(s:MS):Prop where
 vs:Vs s
 opn:opn s<=64
 pls:(s.places.length:Int)=p.places
theorem Rk.steps {p:Img}{s:MS}(R:Rk p s)(k:Nat):Rk p {s with steps:=k}:=⟨⟨R.vs.stk,R.vs.pls,R.vs.inp,R.vs.tms,R.vs.acs,R.vs.lts,R.vs.mds,R.vs.now,R.vs.nt,R.vs.na⟩,R.opn,R.pls⟩
theorem Rk.step {p:Img}(P:Pk p){s s':MS}(R:Rk p s)(hm:s.made.length<4611686018427387904)(h:yak p s=some s'):Rk p s':=⟨R.vs.step P hm h,(LmR.step h).1 R.opn,by rw[(ybC h).places];exact R.pls⟩
theorem yeI (p:Img)(s:MS)(e:Ev):((yat p s e).1≠0/\(yat p s e).2=s)\/(yae e=0/\yaI e.kind=true/\s.over=false/\¬s.begun=(e.kind==1)/\yat p s e=(0,ylz p (hear {s with now:=e.time,steps:=0,events:=s.events+1} e))):=by
 unfold yat;by_cases h1:yae e≠0\/yaI e.kind=false
 .rw[if_pos h1];exact .inl ⟨(show(9:Int)≠0 from by decide),rfl⟩
 .rw[if_neg h1]
  by_cases h2:s.over=true
  .rw[if_pos h2];exact .inl ⟨(show(181:Int)≠0 from by decide),rfl⟩
  .rw[if_neg h2]
   by_cases h3:s.begun=(e.kind==1)
   .rw[if_pos h3];exact .inl ⟨(show(7:Int)≠0 from by decide),rfl⟩
   .rw[if_neg h3]
    refine .inr ⟨?_,?_,by simpa using h2,h3,rfl⟩
    .by_cases h:yae e=0
     .exact h
     .exact absurd (.inl h) h1
    .cases h:yaI e.kind with
     |true=>rfl
     |false=>exact absurd (.inr h) h1
theorem yfC (id how:Int)(v:Val):∀l:List Th,(ycA id how v l).length=l.length
 |[]=>rfl
 |x::r=>by
  rw[ycA];split
  .cases x.over<;>rfl
  .rw[List.length_cons,List.length_cons,yfC id how v r]
theorem yik (s:MS)(e:Ev):opn (hear s e)=opn s/\(hear s e).places=s.places:=by
 unfold hear opn
 repeat' split
 all_goals first|exact⟨rfl,rfl⟩|exact⟨by show(ycA _ _ _ s.timers.list).length+s.acts.list.length=_;rw[yfC],rfl⟩|exact⟨by show s.timers.list.length+(ycA _ _ _ s.acts.list).length=_;rw[yfC],rfl⟩
theorem ygT {p:Img}:∀(f:Nat) (s:MS),opn s<=64->opn (ya3 p f s)<=64/\(ya3 p f s).places.length=s.places.length
 |0,_,h=>⟨h,rfl⟩
 |f+1,s,h=>by
  rw[ya3];cases s.over with
  |true=>exact⟨h,rfl⟩
  |false=>
   simp only[znl];cases hs:yak p s with
   |none=>exact⟨h,rfl⟩
   |some s'=>
    obtain⟨i1,i2⟩:=ygT f {s' with steps:=s'.steps+1} ((LmR.step hs).1 h);exact⟨i1,i2.trans (ybC hs).places⟩
structure St (p:Img)(fa:Fa)(s:MS):Prop where
 good:Good p fa s
 rk:Rk p s
 ml:Ml s
 bd:s.made.length<=20000*s.events
theorem St.zero {p:Img}{fa:Fa}(K:Known p fa)(hp:0<=p.places):St p fa (ms0 p):=
 ⟨ypl K,⟨vs0,znq _,by show((List.replicate p.places.toNat yag).length:Int)=p.places;rw[List.length_replicate];omega⟩,ml0,znq _⟩
theorem yjQ {p:Img}{fa:Fa}(K:Known p fa){s:MS}(S:St p fa s)(he:s.events<=30):s.made.length+(p.code.length+1)*(s.events+2)<=700000:=by
 have C:=(yb3 K.img).2.1;have B:=S.bd;have A:(p.code.length+1)*(s.events+2)<=513*32:=Nat.mul_le_mul (by omega) (by omega);omega
theorem St.apply {p:Img}{fa:Fa}(K:Known p fa)(P:Pk p)(hsp:fa.span<=p.code.length+1){s:MS}(S:St p fa s)(e:Ev)(hw:e.v.wf)(he:s.events<=30):St p fa (yat p s e).2/\(yat p s e).2.events<=s.events+1:=by
 have M:=yjQ K S he;obtain⟨L,J,l,I,V,U,T⟩:=yjv P S.rk.vs S.ml e hw (N:=s.events) S.good.pot (by omega);have H:=yjx K hsp S.good e;rcases yeI p s e with⟨_,C⟩|⟨_,_,O,_,C⟩
 .rw[C]
  exact⟨S,Nat.le_succ _⟩
 .obtain⟨s1,D⟩:∃s1,hear {s with now:=e.time,steps:=0,events:=s.events+1} e=s1:=⟨_,rfl⟩
  have B:=yik {s with now:=e.time,steps:=0,events:=s.events+1} e;have F:=ydO {s with now:=e.time,steps:=0,events:=s.events+1} e;rw[D]at C B F;have E:(yat p s e).2=ylz p s1:=by rw[C]
  have hk:=(yfo p (fuel p s1) s1).1;have A:(yat p s e).2.events=s.events+1:=by rw[E];exact hk.trans F.2.1
  refine⟨⟨H,⟨L,?_,?_⟩,J,?_⟩,Nat.le_of_eq A⟩
  .rw[E]
   exact(ygT (fuel p s1) s1 (by rw[B.1];exact S.rk.opn)).1
  .rw[E]
   have G:=(ygT (p:=p) (fuel p s1) s1 (by rw[B.1];exact S.rk.opn)).2;show((ya3 p (fuel p s1) s1).places.length:Int)=p.places;rw[G,B.2];exact S.rk.pls
  .rw[I,A,znk]
   have R:=S.bd;have Q:(p.code.length+1)*(s.events+2)<=513*32:=Nat.mul_le_mul (by have:=(yb3 K.img).2.1;omega) (by omega);omega
theorem yoy {n:ByteArray}(h:n.size=0):n=⟨#[]⟩:=by
 apply ByteArray.ext;exact Array.eq_empty_of_size_eq_zero h
theorem ydS {c:Cm}(h:yaV c=0):(0<=c.time/\c.time<=4611686018427387903)/\0<=c.a/\0<=c.b/\c.name.size<=64/\checkL c.v=0/\((c.kind=1/\c.name=⟨#[]⟩/\c.v.kind=0)\/(c.kind=2/\c.b=0/\c.name=⟨#[]⟩/\c.v.kind=0)\/c.kind=3\/(c.kind=4/\c.a=0/\c.b=0/\c.name=⟨#[]⟩)\/(c.kind=5/\c.a=0/\c.b=0/\c.v.kind=0)\/(c.kind=6/\c.a=0/\c.b=0/\c.name=⟨#[]⟩)):=by
 unfold yaV at h;cases hk:ykZ c.kind with
 |none=>rw[hk]at h;cases h
 |some q=>
  obtain⟨N,M,L,K⟩:=q;rw[hk]at h;dsimp only at h;split at h
  .cases h
  .rename_i A
   split at h
   .cases h
   .rename_i J
    split at h
    .cases h
    .rename_i E
     have D:N=false->c.a=0:=fun e=>Decidable.byContradiction fun n=>A (.inr (.inr (.inr (.inr (.inl ⟨e,n⟩)))));have C:M=false->c.b=0:=fun e=>Decidable.byContradiction fun n=>A (.inr (.inr (.inr (.inr (.inr ⟨e,n⟩)))));have B:L=false->c.name=⟨#[]⟩:=fun e=>yoy (Decidable.byContradiction fun n=>E (.inl ⟨e,n⟩));have hv:K=false->c.v.kind=0:=fun e=>Decidable.byContradiction fun n=>E (.inr ⟨e,n⟩);have I:¬c.time<0:=fun e=>A (.inl e);have H:¬4611686018427387903<c.time:=fun e=>A (.inr (.inl e));have G:¬c.a<0:=fun e=>A (.inr (.inr (.inl e)));have F:¬c.b<0:=fun e=>A (.inr (.inr (.inr (.inl e))));refine⟨⟨by omega,by omega⟩,by omega,by omega,by omega,h,?_⟩;clear A J E I H G F h;unfold ykZ at hk;split at hk
     .rename_i e
      cases hk;exact .inl ⟨e,B rfl,hv rfl⟩
     .split at hk
      .rename_i e
       cases hk;exact .inr (.inl ⟨e,C rfl,B rfl,hv rfl⟩)
      .split at hk
       .rename_i e
        exact .inr (.inr (.inl e))
       .split at hk
        .rename_i e
         cases hk;rcases e with e|e
         .exact .inr (.inr (.inr (.inl ⟨e,D rfl,C rfl,B rfl⟩)))
         .exact .inr (.inr (.inr (.inr (.inr ⟨e,D rfl,C rfl,B rfl⟩))))
        .split at hk
         .rename_i e
          cases hk;exact .inr (.inr (.inr (.inr (.inl ⟨e,D rfl,C rfl,hv rfl⟩))))
         .cases hk
end Go.Va
