/- Parts of the proof: what the functions and the plain laws give that later parts lean on. Conditions: none beyond those that each theorem names. -/
import Derived.Test.YtpagmlndgblhhaaGreatDoorA7
set_option maxRecDepth 100000
set_option maxHeartbeats 8000000
namespace Go.Va
open Go.Own Go.RowKit
open Go.Proofs.YtpagmlndgblhhaaGreatDoor
def yo8 (c:Cm):Bool:=c.kind==4||c.kind==5||c.kind==6
def MdR (s s':MS):Prop:=∃l,s'.made=s.made++l/\l.length<=1/\∀c∈l,c.time=s.now/\(yo8 c=true->s'.over=true)
theorem MdR.same {s s':MS}(h:s'.made=s.made):MdR s s':=⟨[],by rw[h,List.append_nil],znq _,fun c hc=>by cases hc⟩
theorem MdR.want (s:MS)(c:Cm):MdR s (s.want c):=by
 refine⟨[{c with time:=s.now,v:=yab c.v}],rfl,znc _,fun d hd=> ?_⟩;rw[List.mem_singleton.1 hd];refine⟨rfl,fun h=> ?_⟩;show(s.over||(c.kind==4||c.kind==5||c.kind==6))=true;have h:(c.kind==4||c.kind==5||c.kind==6)=true:=h;rw[h,Bool.or_true]
theorem MdR.from_ {a s s':MS}(hm:a.made=s.made)(hn:a.now=s.now)(h:MdR a s'):MdR s s':=by
 obtain⟨l,C,B,A⟩:=h;exact⟨l,by rw[C,hm],B,fun c hc=>by rw[<-hn];exact A c hc⟩
theorem MdR.to_ {s a s':MS}(hm:s'.made=a.made)(ho:s'.over=a.over)(h:MdR s a):MdR s s':=by
 obtain⟨l,C,B,A⟩:=h;exact⟨l,by rw[hm,C],B,fun c hc=>by rw[ho];exact A c hc⟩
theorem MdR.fall (s:MS)(why:ByteArray):MdR s (s.fall why):=MdR.from_ (a:={s with trap:=why}) rfl rfl (MdR.want _ _)
theorem MdR.put (s:MS)(v:Val):MdR s (s.put v):=by
 unfold MS.put;split
 .exact MdR.fall _ _
 .exact MdR.same rfl
theorem MdR.arith (s:MS)(op:Int)(a b:Val):MdR s (s.arith op a b):=by
 unfold MS.arith;split
 .exact MdR.fall _ _
 .exact MdR.same rfl
theorem yaK {s a b:MS}{c:Prop}[Decidable c](ha:MdR s a)(hb:MdR s b):MdR s (if c then a else b):=by
 split
 .exact ha
 .exact hb
theorem MdR.two (s:MS)(op:Int)(a b:Val):MdR s (s.two op a b):=by
 unfold MS.two;exact yaK (MdR.same rfl) (yaK (MdR.same rfl) (yaK (yaK (MdR.fall _ _) (MdR.same rfl)) (yaK (yaK (MdR.put _ _) (yaK (MdR.put _ _) (MdR.fall _ _))) (MdR.arith _ _ _ _))))
theorem MdR.reckon (s:MS)(op:Int)(k:Nat):MdR s (s.reckon op k):=by
 unfold MS.reckon;exact yaK (MdR.from_ (a:={s with stk:=s.stk.take (s.stk.length - k)}) rfl rfl (MdR.put _ _)) (yaK (MdR.same rfl) (yaK (yaK (MdR.same rfl) (yaK (MdR.same rfl) (MdR.from_ (a:=s.pop) rfl rfl (MdR.fall _ _)))) (MdR.from_ (a:=s.pop.pop) rfl rfl (MdR.two _ _ _ _))))
theorem MdR.begin_ (s:MS)(op:Int)(name:ByteArray):MdR s (s.begin_ op name):=by
 unfold MS.begin_;dsimp only;refine yaK ?_ (yaK (MdR.from_ (a:=s.pop) rfl rfl (MdR.fall _ _)) (yaK (MdR.from_ (a:=s.pop) rfl rfl (MdR.fall _ _)) (yaK ?_ ?_)))
 .split
  .exact MdR.from_ (a:=s.pop) rfl rfl (MdR.fall _ _)
  .rename_i i _
   cases(s.timers.list[i]?.getD ⟨0,false,yag,0⟩).over with
   |true=>exact MdR.same rfl
   |false=>
    obtain⟨x,A⟩:∃x:MS,x={s.pop with timers:=⟨s.timers.list.eraseIdx i,s.timers.next⟩}:=⟨_,rfl⟩;rw[<-A];exact MdR.to_ (a:=x.want ⟨2,0,s.top.num,0,⟨#[]⟩,yag⟩) rfl rfl (MdR.from_ (a:=x) (by rw[A];rfl) (by rw[A];rfl) (MdR.want _ _))
 .obtain⟨x,A⟩:∃x:MS,x={s.pop.pop with acts:=yco s.acts}:=⟨_,rfl⟩
  rw[<-A];exact MdR.to_ (a:=x.want ⟨3,0,s.acts.next+1,s.top.num,name,s.pop.top⟩) rfl rfl (MdR.from_ (a:=x) (by rw[A];rfl) (by rw[A];rfl) (MdR.want _ _))
 .obtain⟨x,A⟩:∃x:MS,x={s.pop with timers:=yco s.timers}:=⟨_,rfl⟩
  rw[<-A];exact MdR.to_ (a:=x.want ⟨1,0,s.timers.next+1,s.top.num,⟨#[]⟩,yag⟩) rfl rfl (MdR.from_ (a:=x) (by rw[A];rfl) (by rw[A];rfl) (MdR.want _ _))
theorem MdR.wait {s s':MS}{op:Int}{name:ByteArray}(h:s.wait op name=some s'):MdR s s':=by
 unfold MS.wait at h;split at h
 .cases hf:yaq name s.letters with
  |none=>rw[hf]at h;cases h
  |some i=>rw[hf]at h;cases h;exact MdR.same rfl
 .dsimp only at h
  split at h
  .cases h;exact MdR.fall _ _
  .split at h
   .cases h;exact MdR.same rfl
   .rename_i i _ _ _
    cases hov:((if op=21 then s.acts.list else s.timers.list)[i]?.getD ⟨0,false,yag,0⟩).over with
    |false=>rw[hov]at h;cases h
    |true=>
     rw[hov]at h;simp only[Bool.not_true,znl,Option.some.injEq]at h;rw[<-h];by_cases h21:op=21
     .rw[if_pos h21]
      by_cases h18:op=18
      .rw[if_pos h18];exact MdR.same rfl
      .rw[if_neg h18,if_pos h21];exact MdR.same rfl
     .rw[if_neg h21]
      by_cases h18:op=18
      .rw[if_pos h18];exact MdR.same rfl
      .rw[if_neg h18,if_neg h21];exact MdR.same rfl
theorem MdR.end_ (s:MS)(op:Int)(name:ByteArray):MdR s (s.end_ op name):=by
 unfold MS.end_;exact yaK (MdR.from_ (a:=s.pop) rfl rfl (MdR.want _ _)) (yaK (MdR.from_ (a:=s.pop) rfl rfl (MdR.want _ _)) (MdR.want _ _))
theorem MdR.go (s:MS)(p:Img)(op:Int)(k:Nat):MdR s (s.go p op k):=by
 unfold MS.go;dsimp only;refine yaK (MdR.same rfl) (yaK (MdR.same rfl) (yaK (MdR.same rfl) (yaK (MdR.same rfl) (yaK (MdR.same rfl) (yaK (MdR.same rfl) (yaK (MdR.same rfl) (yaK (MdR.same rfl) (yaK (MdR.same rfl) (yaK ?_ (yaK (MdR.begin_ _ _ _) (yaK (MdR.same rfl) (MdR.reckon _ _ _))))))))))));cases yaq (p.names[k]?.getD ⟨#[]⟩) s.letters<;>exact MdR.same rfl
theorem MdR.step {p:Img}{s s':MS}(h:yak p s=some s'):MdR s s':=by
 unfold yak at h;dsimp only at h;cases hb:(ofL (p.code[s.at_]?.getD ⟨0,0⟩).op).1.blocks with
 |true=>rw[hb]at h;exact MdR.wait h
 |false=>
  rw[hb]at h;simp only[znl]at h;cases he:(ofL (p.code[s.at_]?.getD ⟨0,0⟩).op).1.ends with
  |true=>rw[he]at h;cases h;exact MdR.end_ _ _ _
  |false=>
   rw[he]at h;simp only[znl]at h;cases hf:(ofL (p.code[s.at_]?.getD ⟨0,0⟩).op).1.flow with
   |true=>
    rw[hf]at h;cases h;cases((p.code[s.at_]?.getD ⟨0,0⟩).op==11)
    .cases ycN s.top<;>exact MdR.same rfl
    .exact MdR.same rfl
   |false=>
    rw[hf]at h;cases h;exact MdR.from_ (a:=s.nxt) rfl rfl (MdR.go _ _ _ _)
structure Ml (s:MS):Prop where
 last:∀c∈s.made.dropLast,yo8 c=false
 all:s.over=false->∀c∈s.made,yo8 c=false
theorem Ml.step {p:Img}{s s':MS}(M:Ml s)(ho:s.over=false)(h:yak p s=some s'):Ml s':=by
 obtain⟨l,B,E,D⟩:=MdR.step h;have C:=M.all ho
 match l,B,E,D with
 |[],B,_,_=>
  rw[List.append_nil]at B;exact⟨fun c A=>by rw[B]at A;exact C c (ydB A),fun _ c A=>by rw[B]at A;exact C c A⟩
 |[d],B,_,D=>
  refine⟨fun c A=>by rw[B,List.dropLast_concat]at A;exact C c A,fun ho' c A=> ?_⟩;rw[B]at A;rcases List.mem_append.1 A with A|A
  .exact C c A
  .rw[List.mem_singleton.1 A]
   cases he:yo8 d with
   |false=>rfl
   |true=>
    have:=(D d (List.mem_singleton.2 rfl)).2 he;rw[ho']at this;cases this
 |_::_::_,_,E,_=>simp at E
theorem yie {p:Img}(P:Pk p):∀(f:Nat) (s:MS),Vs s->Ml s->s.made.length+f<4611686018427387904->
  Vs (ya9 p f s)/\Ml (ya9 p f s)/\∃l,(ya9 p f s).made=s.made++l/\l.length<=f/\∀c∈l,c.time=s.now
 |0,s,V,M,_=>⟨V,M,[],by rw[List.append_nil];rfl,znc _,fun c hc=>by cases hc⟩
 |f+1,s,V,M,hf=>by
  by_cases ho:s.over=true
  .have e:ya9 p (f+1) s=s:=by rw[ya9,ho];rfl
   rw[e];exact⟨V,M,[],by rw[List.append_nil],znq _,fun c hc=>by cases hc⟩
  .have ho:s.over=false:=by simpa using ho
   cases hs:yak p s with
   |none=>
    have e:ya9 p (f+1) s=s:=by rw[ya9,ho,hs];rfl
    rw[e];exact⟨V,M,[],by rw[List.append_nil],znq _,fun c hc=>by cases hc⟩
   |some s'=>
    have e:ya9 p (f+1) s=ya9 p f {s' with steps:=s'.steps+1}:=by rw[ya9,ho,hs];rfl
    rw[e];obtain⟨l,B,O,I⟩:=MdR.step hs;have N:s'.made.length<=s.made.length+1:=by rw[B,znk];omega
    have A:=V.step P (by omega) hs;have J:Vs {s' with steps:=s'.steps+1}:=⟨A.stk,A.pls,A.inp,A.tms,A.acs,A.lts,A.mds,A.now,A.nt,A.na⟩;have C:=M.step ho hs;have K:Ml {s' with steps:=s'.steps+1}:=⟨C.last,C.all⟩;obtain⟨G,F,k,E,L,D⟩:=yie P f {s' with steps:=s'.steps+1} J K (by show s'.made.length+f<_;omega);have H:=(ybH hs).now;refine⟨G,F,l++k,by rw[E,<-List.append_assoc,<-B],by rw[znk];omega,fun c hc=> ?_⟩;rcases List.mem_append.1 hc with hc|hc
    .exact(I c hc).1
    .exact(D c hc).trans H
structure Nt where
 t:Int
 a:Int
 cs:List Int
def nt1 (n:Nt)(c:Cm):Nt:=if c.kind=1 then{n with t:=n.t+1}else if c.kind=3 then{n with a:=n.a+1}else if c.kind=2 then{n with cs:=c.a::n.cs}else n
def ok1 (n:Nt)(c:Cm):Prop:=if c.kind=1 then c.a=n.t+1 else if c.kind=3 then c.a=n.a+1 else if c.kind=2 then 1<=c.a/\c.a<=n.t/\c.a∉n.cs else True
def ntL:List Cm->Nt->Nt
 |[],n=>n
 |c::r,n=>ntL r (nt1 n c)
def okL:List Cm->Nt->Prop
 |[],_=>True
 |c::r,n=>ok1 n c/\okL r (nt1 n c)
def nt0:Nt:=⟨0,0,[]⟩
structure Nm (s:MS):Prop where
 ok:okL s.made nt0
 t:(ntL s.made nt0).t=s.timers.next
 a:(ntL s.made nt0).a=s.acts.next
 nodup:(s.timers.list.map (·.id)).Nodup
 ids:∀x∈s.timers.list,1<=x.id/\x.id<=s.timers.next/\x.id∉ (ntL s.made nt0).cs
theorem ybn {e:Ev}(h:yad e=0):(0<=e.time/\e.time<=4611686018427387903)/\1<=e.id/\e.id<=1048576/\0<=e.a/\0<=e.b/\e.name.size<=64/\e.text.size<=128/\checkL e.v=0:=by
 unfold yad at h;split at h
 .cases h
 .split at h
  .cases h
  .split at h
   .cases h
   .split at h
    .cases h
    .split at h
     .cases h
     .split at h
      .cases h
      .exact⟨by omega,by omega,by omega,by omega,by omega,by omega,by omega,h⟩
theorem yhs {id how:Int}{v:Val}{P:Th->Prop}:∀{l:List Th},(∀x∈l,P x)->(∀x∈l,P ⟨x.id,true,yab v,how⟩)->∀x∈ycw id how v l,P x
 |[],_,_,x,hx=>by cases hx
 |y::r,h1,h2,x,hx=>by
  rw[ycw]at hx;split at hx
  .cases hy:y.over with
   |true=>
    rw[hy]at hx;exact h1 x hx
   |false=>
    rw[hy]at hx;rcases List.mem_cons.1 hx with rfl|hx
    .exact h2 y zmf
    .exact h1 x (zme _ hx)
  .rcases List.mem_cons.1 hx with rfl|hx
   .exact h1 x zmf
   .exact yhs (fun z hz=>h1 z (zme _ hz)) (fun z hz=>h2 z (zme _ hz)) x hx
theorem Vs.end1 {s:MS}(V:Vs s)(id how:Int){v:Val}(hv:Okv v)(hh: -1<=how/\how<=1):Vs {s with timers:=⟨ycw id how v s.timers.list,s.timers.next⟩}:=
 ⟨V.stk,V.pls,V.inp,yhs V.tms (fun x hx=>⟨ybb hv,hh.1,hh.2,(V.tms x hx).2.2.2⟩),V.acs,V.lts,V.mds,V.now,V.nt,V.na⟩
theorem Vs.end2 {s:MS}(V:Vs s)(id how:Int){v:Val}(hv:Okv v)(hh: -1<=how/\how<=1):Vs {s with acts:=⟨ycw id how v s.acts.list,s.acts.next⟩}:=
 ⟨V.stk,V.pls,V.inp,V.tms,yhs V.acs (fun x hx=>⟨ybb hv,hh.1,hh.2,(V.acs x hx).2.2.2⟩),V.lts,V.mds,V.now,V.nt,V.na⟩
theorem Vs.hear {s:MS}(V:Vs s){e:Ev}(h:yad e=0)(hw:e.v.wf):Vs (hear s e):=by
 obtain⟨_,_,_,_,_,C,_,D⟩:=ybn h;have B:Okv e.v:=⟨D,hw⟩;unfold Go.Va.hear;refine ya4 (fun _=>⟨V.stk,V.pls,ybb B,V.tms,V.acs,V.lts,V.mds,V.now,V.nt,V.na⟩) (fun _=>ya4 (fun _=>V.end1 _ _ yb4 (by decide)) (fun _=>ya4 (fun _=>V.end2 _ _ B (by decide)) (fun _=>ya4 (fun _=>V.end2 _ _ (ync C) (by decide)) (fun _=>ya4 (fun _=>V.end2 _ _ yb4 (by decide)) (fun _=>ya4 (fun _=> ?_) (fun _=>ya4 (fun _=>⟨V.stk,V.pls,V.inp,V.tms,V.acs,V.lts,V.mds,V.now,V.nt,V.na⟩) (fun _=>⟨V.stk,V.pls,V.inp,V.tms,V.acs,V.lts,V.mds,V.now,V.nt,V.na⟩)))))));refine⟨V.stk,V.pls,V.inp,V.tms,V.acs,fun y A=> ?_,V.mds,V.now,V.nt,V.na⟩;rcases List.mem_append.1 A with A|A
 .exact V.lts y A
 .rw[List.mem_singleton.1 A]
  exact⟨ybb B,C⟩
theorem yen (s:MS)(e:Ev):(hear s e).made=s.made/\(hear s e).now=s.now/\((hear s e).over=false->s.over=false):=by
 unfold hear
 repeat' split
 all_goals first|exact⟨rfl,rfl,fun h=>h⟩|exact⟨rfl,rfl,fun h=>by cases h⟩
theorem yjI {p:Img}(P:Pk p){s:MS}(V:Vs s)(M:Ml s)(e:Ev)(hw:e.v.wf){N:Nat}(hN:s.over=false->pot s<=N)(hb:s.made.length+(p.code.length+1)*(N+2)<4611686018427387904):
  Vs (yas p s e).2/\Ml (yas p s e).2/\∃l,(yas p s e).2.made=s.made++l/\l.length<=(p.code.length+1)*(N+2)/\((yas p s e).1≠0->l=[])/\∀c∈l,c.time=e.time:=by
 have D:Vs s/\Ml s/\∃l:List Cm,s.made=s.made++l/\l.length<=(p.code.length+1)*(N+2)/\(∀k:Int,k≠0->l=[])/\∀c∈l,c.time=e.time:=⟨V,M,[],by rw[List.append_nil],znq _,fun _ _=>rfl,fun c B=>by cases B⟩;unfold yas;split
 .obtain⟨K,J,l,I,H,G,F⟩:=D
  exact⟨K,J,l,I,H,G _,F⟩
 .rename_i B
  have E:yad e=0:=by
   by_cases h:yad e=0
   .exact h
   .exact absurd (.inl h) B
  split
  .obtain⟨K,J,l,I,H,G,F⟩:=D
   exact⟨K,J,l,I,H,G _,F⟩
  .rename_i L
   have L:s.over=false:=by simpa using L
   split
   .obtain⟨K,J,l,I,H,G,F⟩:=D
    exact⟨K,J,l,I,H,G _,F⟩
   .obtain⟨s0,A⟩:∃s0:MS,s0={s with now:=e.time,steps:=0,events:=s.events+1}:=⟨_,rfl⟩
    rw[<-A];have a:Vs s0:=by rw[A];exact⟨V.stk,V.pls,V.inp,V.tms,V.acs,V.lts,V.mds,(ybn E).1,V.nt,V.na⟩
    have C:s0.made=s.made:=by rw[A]
    have Q:s0.now=e.time:=by rw[A]
    have W:pot s0=pot s:=by rw[A];rfl
    obtain⟨O,Y,g⟩:=yen s0 e;have Z:=a.hear E hw;have b:Ml (hear s0 e):=⟨fun c B=>by rw[O,C]at B;exact M.last c B,fun _ c B=>by rw[O,C]at B;exact M.all L c B⟩;have f:=(ydT s0 e).1;have X:fuel p (hear s0 e)<=(p.code.length+1)*(N+2):=Nat.mul_le_mul_left _ (by have:=hN L;omega);obtain⟨U,T,l,S,d,R⟩:=yie P (fuel p (hear s0 e)) (hear s0 e) Z b (by rw[O,C];omega);exact⟨U,T,l,by show(ya9 p _ _).made=_;rw[S,O,C],by omega,fun h=>absurd rfl h,fun c B=>by rw[R c B,Y,Q]⟩
theorem vs0 {p:Img}:Vs (ms0 p):=⟨fun x hx=>(by cases hx),fun x hx=>(by rw[List.eq_of_mem_replicate hx];exact yb4),yb4,fun x hx=>(by cases hx),fun x hx=>(by cases hx),fun x hx=>(by cases hx),fun x hx=>(by cases hx),⟨Int.le_refl _,by show(0:Int)<=4611686018427387903;decide⟩,⟨Int.le_refl _,Int.le_refl _⟩,⟨Int.le_refl _,Int.le_refl _⟩⟩
theorem ml0 {p:Img}:Ml (ms0 p):=⟨fun x hx=>(by cases hx),fun _ x hx=>(by cases hx)⟩
def yg2 (now ticks:Int):Int:=if now<0\/ticks<0 then 0 else if 4611686018427387903<=now\/4611686018427387903 - now<ticks then 4611686018427387903 else now+ticks
def evOfC (c:Cm):Ev:=
 if c.kind=1 then⟨0,c.time,11,c.a,yg2 c.time c.b,⟨#[]⟩,⟨#[]⟩,yag⟩else
 if c.kind=2 then⟨0,c.time,13,c.a,0,⟨#[]⟩,⟨#[]⟩,yag⟩else
 if c.kind=3 then⟨0,c.time,7,c.a,c.b,c.name,⟨#[]⟩,yab c.v⟩else
 if c.kind=4 then⟨0,c.time,16,0,0,⟨#[]⟩,⟨#[]⟩,yab c.v⟩else
 if c.kind=5 then⟨0,c.time,17,0,0,c.name,⟨#[]⟩,yag⟩else
 if c.kind=6 then⟨0,c.time,21,0,0,⟨#[]⟩,⟨#[]⟩,yab c.v⟩else⟨0,c.time,0,0,0,⟨#[]⟩,⟨#[]⟩,yag⟩
def ydL (c:Cm)(e:Ev):Bool:=
 let w:=evOfC c
 (w.kind !=0)&&((w.time==e.time)&&((w.kind==e.kind)&&((w.a==e.a)&&(((bif w.kind==21 then e.b else w.b)==e.b)&&(decide (w.name=e.name)&&(decide (w.text=e.text)&&(cmpV w.v e.v==0)))))))
def ybR (k:Int):Bool:=decide (k=11\/k=13\/k=7\/k=16\/k=17\/k=21)
def yaS (k:Int):Bool:=decide (16<=k/\k<=21)
structure RP where
 m:MS
 seen:Nat
 next:Nat
 fired:List Int
 closed:Bool
 err:Int
def yaU (fired:List Int)(c:Cm):Bool:=(c.kind==2)&&decide (c.a∈fired)
def ybj (fired:List Int):List Cm->Nat->Nat
 |[],n=>n
 |c::r,n=>bif yaU fired c then ybj fired r (n+1)else n
def ybQ (p:Img)(r:RP)(e:Ev):Int×RP:=
 if yad e≠0 then(9,r)else
 if e.id≠(r.seen:Int)+1 then(180,r)else
 if r.closed=true then(181,r)else
 if(r.seen=0/\e.kind≠1)\/(r.seen≠0/\e.kind=1)then(7,r)else
 if yaH e.kind=true then(0,{r with m:=(yas p r.m e).2,seen:=r.seen+1,fired:=if e.kind=12 then e.a::r.fired else r.fired,closed:=yaS e.kind})else
 if ybR e.kind=true then
  let n:=ybj r.fired (r.m.made.drop r.next) r.next
  match r.m.made[n]? with
  |none=>(150,{r with seen:=r.seen+1,next:=n})
  |some c=>if ydL c e=true then(0,{r with seen:=r.seen+1,next:=n+1,closed:=yaS e.kind})else(150,{r with seen:=r.seen+1,next:=n})
 else(0,{r with seen:=r.seen+1,closed:=yaS e.kind})
def yar (p:Img):RP->List Ev->RP
 |r,[]=>r
 |r,e::l=>bif r.err !=0 then r else yar p {(ybQ p r e).2 with err:=(ybQ p r e).1} l
def rp0 (p:Img):RP:=⟨ms0 p,0,0,[],false,0⟩
def ybM (r:RP):List Cm:=bif (r.err !=0)||r.closed then[]else(r.m.made.drop r.next).filter (fun c=> !yaU r.fired c)
def ycM (r:RP)(e:Ev):Int:=
 if yad e≠0 then 9 else if e.id≠(r.seen:Int)+1 then 180 else if r.closed=true then 181 else if(r.seen=0/\e.kind≠1)\/(r.seen≠0/\e.kind=1)then 7 else 0
theorem yhn {p:Img}{r:RP}{e:Ev}(h:ycM r e≠0):ybQ p r e=(ycM r e,r):=by
 unfold ybQ;unfold ycM at h|-;split
 .rfl
 .split
  .rfl
  .split
   .rfl
   .split
    .rfl
    .rename_i D C B A
     rw[if_neg D,if_neg C,if_neg B,if_neg A]at h;exact absurd rfl h
def opn (s:MS):Nat:=s.timers.list.length+s.acts.list.length
def LmR (s s':MS):Prop:=(opn s<=64->opn s'<=64)/\s'.letters.length<=s.letters.length
theorem LmR.same {s s':MS}(h1:s'.timers.list=s.timers.list)(h2:s'.acts.list=s.acts.list)(h3:s'.letters=s.letters):LmR s s':=by
 unfold LmR opn;rw[h1,h2,h3];exact⟨fun h=>h,znc _⟩
theorem LmR.nxt {s a:MS}(h:LmR s a):LmR s a.nxt:=h
theorem LmR.same2 {a s s':MS}(h:LmR a s)(h1:s'.timers.list=s.timers.list)(h2:s'.acts.list=s.acts.list)(h3:s'.letters=s.letters):LmR a s':=by
 unfold LmR opn at h|-;rw[h1,h2,h3];exact h
theorem LmR.put (s:MS)(v:Val):LmR s (s.put v):=by
 unfold MS.put;split<;>exact LmR.same rfl rfl rfl
theorem LmR.arith (s:MS)(op:Int)(a b:Val):LmR s (s.arith op a b):=by
 unfold MS.arith;split<;>exact LmR.same rfl rfl rfl
theorem ybw {s a b:MS}{c:Prop}[Decidable c](ha:LmR s a)(hb:LmR s b):LmR s (if c then a else b):=by
 split
 .exact ha
 .exact hb
theorem LmR.two (s:MS)(op:Int)(a b:Val):LmR s (s.two op a b):=by
 unfold MS.two;exact ybw (LmR.same rfl rfl rfl) (ybw (LmR.same rfl rfl rfl) (ybw (ybw (LmR.same rfl rfl rfl) (LmR.same rfl rfl rfl)) (ybw (ybw (LmR.put _ _) (ybw (LmR.put _ _) (LmR.same rfl rfl rfl))) (LmR.arith _ _ _ _))))
theorem LmR.reckon (s:MS)(op:Int)(k:Nat):LmR s (s.reckon op k):=by
 unfold MS.reckon;exact ybw (LmR.put {s with stk:=s.stk.take (s.stk.length - k)} _) (ybw (LmR.same rfl rfl rfl) (ybw (ybw (LmR.same rfl rfl rfl) (ybw (LmR.same rfl rfl rfl) (LmR.same rfl rfl rfl))) (LmR.two s.pop.pop _ _ _)))
theorem LmR.begin_ (s:MS)(op:Int)(name:ByteArray):LmR s (s.begin_ op name):=by
 unfold MS.begin_;dsimp only;split
 .split
  .exact LmR.same rfl rfl rfl
  .rename_i i _
   have C:=List.length_eraseIdx_le s.timers.list i;have A:LmR s {s.pop with timers:=⟨s.timers.list.eraseIdx i,s.timers.next⟩}:=⟨fun h=>by have h:s.timers.list.length+s.acts.list.length<=64:=h;show(s.timers.list.eraseIdx i).length+s.acts.list.length<=64;omega,znc _⟩;cases(s.timers.list[i]?.getD ⟨0,false,yag,0⟩).over<;>exact A
 .split
  .exact LmR.same rfl rfl rfl
  .split
   .exact LmR.same rfl rfl rfl
   .rename_i B
    split
    .refine⟨fun _=> ?_,znc _⟩
     show s.timers.list.length+(s.acts.list++[_]).length<=64;rw[znk,zmh];omega
    .refine⟨fun _=> ?_,znc _⟩
     show(s.timers.list++[_]).length+s.acts.list.length<=64;rw[znk,zmh];omega
theorem LmR.wait {s s':MS}{op:Int}{name:ByteArray}(h:s.wait op name=some s'):LmR s s':=by
 have A:∀i,LmR s (s.openL i):=fun i=>⟨fun h=>h,List.length_eraseIdx_le _ _⟩;unfold MS.wait at h;split at h
 .cases hf:yaq name s.letters with
  |none=>rw[hf]at h;cases h
  |some i=>rw[hf]at h;cases h;exact A i
 .dsimp only at h
  split at h
  .cases h;exact LmR.same rfl rfl rfl
  .split at h
   .rename_i k _
    cases h;exact A k
   .rename_i i _ _ _
    cases hov:((if op=21 then s.acts.list else s.timers.list)[i]?.getD ⟨0,false,yag,0⟩).over with
    |false=>rw[hov]at h;cases h
    |true=>
     rw[hov]at h;simp only[Bool.not_true,znl,Option.some.injEq]at h;have B:LmR s (if op=21 then{s.pop with acts:=⟨(if op=21 then s.acts.list else s.timers.list).eraseIdx i,s.acts.next⟩}else{s.pop with timers:=⟨(if op=21 then s.acts.list else s.timers.list).eraseIdx i,s.timers.next⟩}):=by
      have E:=List.length_eraseIdx_le s.timers.list i;have D:=List.length_eraseIdx_le s.acts.list i;split
      .rename_i C
       refine⟨fun h=> ?_,znc _⟩;have h:s.timers.list.length+s.acts.list.length<=64:=h;show s.timers.list.length+(s.acts.list.eraseIdx i).length<=64;omega
      .rename_i C
       refine⟨fun h=> ?_,znc _⟩;have h:s.timers.list.length+s.acts.list.length<=64:=h;show(s.timers.list.eraseIdx i).length+s.acts.list.length<=64;omega
     rw[<-h];exact LmR.nxt (ybw (LmR.same2 B rfl rfl rfl) (ybw (LmR.same2 B rfl rfl rfl) (LmR.same2 B rfl rfl rfl)))
theorem LmR.end_ (s:MS)(op:Int)(name:ByteArray):LmR s (s.end_ op name):=by
 unfold MS.end_;exact ybw (LmR.same rfl rfl rfl) (ybw (LmR.same rfl rfl rfl) (LmR.same rfl rfl rfl))
theorem LmR.go (s:MS)(p:Img)(op:Int)(k:Nat):LmR s (s.go p op k):=by
 unfold MS.go;dsimp only
 repeat' (first|exact LmR.begin_ _ _ _|exact LmR.reckon _ _ _|refine ybw ?_ ?_)
 all_goals try(cases yaq (p.names[k]?.getD ⟨#[]⟩) s.letters)
 all_goals first|exact LmR.same rfl rfl rfl|exact LmR.begin_ _ _ _|exact LmR.reckon _ _ _|exact⟨fun h=>h,List.length_eraseIdx_le _ _⟩
theorem LmR.step {p:Img}{s s':MS}(h:yak p s=some s'):LmR s s':=by
 unfold yak at h;dsimp only at h;cases hb:(ofL (p.code[s.at_]?.getD ⟨0,0⟩).op).1.blocks with
 |true=>rw[hb]at h;exact LmR.wait h
 |false=>
  rw[hb]at h;simp only[znl]at h;cases he:(ofL (p.code[s.at_]?.getD ⟨0,0⟩).op).1.ends with
  |true=>rw[he]at h;cases h;exact LmR.end_ _ _ _
  |false=>
   rw[he]at h;simp only[znl]at h;cases hf:(ofL (p.code[s.at_]?.getD ⟨0,0⟩).op).1.flow with
   |true=>
    rw[hf]at h;cases h;cases((p.code[s.at_]?.getD ⟨0,0⟩).op==11)
    .cases ycN s.top<;>exact LmR.same rfl rfl rfl
    .exact LmR.same rfl rfl rfl
   |false=>
    rw[hf]at h;cases h;exact LmR.go s.nxt _ _ _
theorem ycS {x:Val}(h:Okv x):szV x<=20000:=by
 have B:=ygA h.1;have A:=yd6 x;omega
theorem ymH {x:Val}(h:Okv x)(hk:x.kind=2):x.txt.size<=256:=by
 cases x with
 |mk k n s l=>
  have hk:k=2:=hk;subst hk;have A:=(ybp.1 h.1).1;rw[yal]at A;have A:(bif decide (256<s.size)then(2:Int)else 0)=0:=A;show s.size<=256;by_cases e:256<s.size
  .rw[zno e]at A;cases A
  .omega
theorem ye3:∀l k:List Val,szV.szL (l++k)=szV.szL l+szV.szL k
 |[],k=>by rw[List.nil_append,szV.szL];omega
 |x::l,k=>by rw[List.cons_append,szV.szL,szV.szL,ye3 l k];omega
theorem ymI {x:Val}(h:Okv x)(hk:x.kind=3):szV.szL x.list<=20000:=by
 have A:=ycS h;rw[ydx,show(x.kind==2)=false by rw[hk];rfl,show(x.kind==3)=true by rw[hk];rfl]at A;simp only[znm,znl]at A;omega
structure Rk (p:Img)(s:MS):Prop where
 vs:Vs s
 opn:opn s<=64
 pls:(s.places.length:Int)=p.places
theorem Rk.steps {p:Img}{s:MS}(R:Rk p s)(k:Nat):Rk p {s with steps:=k}:=⟨⟨R.vs.stk,R.vs.pls,R.vs.inp,R.vs.tms,R.vs.acs,R.vs.lts,R.vs.mds,R.vs.now,R.vs.nt,R.vs.na⟩,R.opn,R.pls⟩
theorem Rk.step {p:Img}(P:Pk p){s s':MS}(R:Rk p s)(hm:s.made.length<4611686018427387904)(h:yak p s=some s'):Rk p s':=⟨R.vs.step P hm h,(LmR.step h).1 R.opn,by rw[(ybH h).places];exact R.pls⟩
theorem yeK (p:Img)(s:MS)(e:Ev):((yas p s e).1≠0/\(yas p s e).2=s)\/(yad e=0/\yaH e.kind=true/\s.over=false/\¬s.begun=(e.kind==1)/\yas p s e=(0,ylM p (hear {s with now:=e.time,steps:=0,events:=s.events+1} e))):=by
 unfold yas;by_cases h1:yad e≠0\/yaH e.kind=false
 .rw[if_pos h1];exact .inl ⟨(show(9:Int)≠0 from by decide),rfl⟩
 .rw[if_neg h1]
  by_cases h2:s.over=true
  .rw[if_pos h2];exact .inl ⟨(show(181:Int)≠0 from by decide),rfl⟩
  .rw[if_neg h2]
   by_cases h3:s.begun=(e.kind==1)
   .rw[if_pos h3];exact .inl ⟨(show(7:Int)≠0 from by decide),rfl⟩
   .rw[if_neg h3]
    refine .inr ⟨?_,?_,by simpa using h2,h3,rfl⟩
    .by_cases h:yad e=0
     .exact h
     .exact absurd (.inl h) h1
    .cases h:yaH e.kind with
     |true=>rfl
     |false=>exact absurd (.inr h) h1
theorem yfI (id how:Int)(v:Val):∀l:List Th,(ycw id how v l).length=l.length
 |[]=>rfl
 |x::r=>by
  rw[ycw];split
  .cases x.over<;>rfl
  .rw[List.length_cons,List.length_cons,yfI id how v r]
theorem yis (s:MS)(e:Ev):opn (hear s e)=opn s/\(hear s e).places=s.places:=by
 unfold hear opn
 repeat' split
 all_goals first|exact⟨rfl,rfl⟩|exact⟨by show(ycw _ _ _ s.timers.list).length+s.acts.list.length=_;rw[yfI],rfl⟩|exact⟨by show s.timers.list.length+(ycw _ _ _ s.acts.list).length=_;rw[yfI],rfl⟩
theorem yg3 {p:Img}:∀(f:Nat) (s:MS),opn s<=64->opn (ya9 p f s)<=64/\(ya9 p f s).places.length=s.places.length
 |0,_,h=>⟨h,rfl⟩
 |f+1,s,h=>by
  rw[ya9];cases s.over with
  |true=>exact⟨h,rfl⟩
  |false=>
   simp only[znl];cases hs:yak p s with
   |none=>exact⟨h,rfl⟩
   |some s'=>
    obtain⟨i1,i2⟩:=yg3 f {s' with steps:=s'.steps+1} ((LmR.step hs).1 h);exact⟨i1,i2.trans (ybH hs).places⟩
structure St (p:Img)(fa:Fa)(s:MS):Prop where
 good:Good p fa s
 rk:Rk p s
 ml:Ml s
 bd:s.made.length<=20000*s.events
theorem St.zero {p:Img}{fa:Fa}(K:Known p fa)(hp:0<=p.places):St p fa (ms0 p):=
 ⟨ypr K,⟨vs0,znq _,by show((List.replicate p.places.toNat yag).length:Int)=p.places;rw[List.length_replicate];omega⟩,ml0,znq _⟩
theorem yj3 {p:Img}{fa:Fa}(K:Known p fa){s:MS}(S:St p fa s)(he:s.events<=30):s.made.length+(p.code.length+1)*(s.events+2)<=700000:=by
 have C:=(yb1 K.img).2.1;have B:=S.bd;have A:(p.code.length+1)*(s.events+2)<=513*32:=Nat.mul_le_mul (by omega) (by omega);omega
theorem St.apply {p:Img}{fa:Fa}(K:Known p fa)(P:Pk p)(hsp:fa.span<=p.code.length+1){s:MS}(S:St p fa s)(e:Ev)(hw:e.v.wf)(he:s.events<=30):St p fa (yas p s e).2/\(yas p s e).2.events<=s.events+1:=by
 have M:=yj3 K S he;obtain⟨L,J,l,I,V,U,T⟩:=yjI P S.rk.vs S.ml e hw (N:=s.events) S.good.pot (by omega);have H:=yjK K hsp S.good e;rcases yeK p s e with⟨_,C⟩|⟨_,_,O,_,C⟩
 .rw[C]
  exact⟨S,Nat.le_succ _⟩
 .obtain⟨s1,D⟩:∃s1,hear {s with now:=e.time,steps:=0,events:=s.events+1} e=s1:=⟨_,rfl⟩
  have B:=yis {s with now:=e.time,steps:=0,events:=s.events+1} e;have F:=ydT {s with now:=e.time,steps:=0,events:=s.events+1} e;rw[D]at C B F;have E:(yas p s e).2=ylM p s1:=by rw[C]
  have hk:=(yfv p (fuel p s1) s1).1;have A:(yas p s e).2.events=s.events+1:=by rw[E];exact hk.trans F.2.1
  refine⟨⟨H,⟨L,?_,?_⟩,J,?_⟩,Nat.le_of_eq A⟩
  .rw[E]
   exact(yg3 (fuel p s1) s1 (by rw[B.1];exact S.rk.opn)).1
  .rw[E]
   have G:=(yg3 (p:=p) (fuel p s1) s1 (by rw[B.1];exact S.rk.opn)).2;show((ya9 p (fuel p s1) s1).places.length:Int)=p.places;rw[G,B.2];exact S.rk.pls
  .rw[I,A,znk]
   have R:=S.bd;have Q:(p.code.length+1)*(s.events+2)<=513*32:=Nat.mul_le_mul (by have:=(yb1 K.img).2.1;omega) (by omega);omega
theorem yoG {n:ByteArray}(h:n.size=0):n=⟨#[]⟩:=by
 apply ByteArray.ext;exact Array.eq_empty_of_size_eq_zero h
theorem ydW {c:Cm}(h:yaV c=0):(0<=c.time/\c.time<=4611686018427387903)/\0<=c.a/\0<=c.b/\c.name.size<=64/\checkL c.v=0/\((c.kind=1/\c.name=⟨#[]⟩/\c.v.kind=0)\/(c.kind=2/\c.b=0/\c.name=⟨#[]⟩/\c.v.kind=0)\/c.kind=3\/(c.kind=4/\c.a=0/\c.b=0/\c.name=⟨#[]⟩)\/(c.kind=5/\c.a=0/\c.b=0/\c.v.kind=0)\/(c.kind=6/\c.a=0/\c.b=0/\c.name=⟨#[]⟩)):=by
 unfold yaV at h;cases hk:ylb c.kind with
 |none=>rw[hk]at h;cases h
 |some q=>
  obtain⟨N,M,L,K⟩:=q;rw[hk]at h;dsimp only at h;split at h
  .cases h
  .rename_i A
   split at h
   .cases h
   .rename_i J
    split at h
    .cases h
    .rename_i E
     have D:N=false->c.a=0:=fun e=>Decidable.byContradiction fun n=>A (.inr (.inr (.inr (.inr (.inl ⟨e,n⟩)))));have C:M=false->c.b=0:=fun e=>Decidable.byContradiction fun n=>A (.inr (.inr (.inr (.inr (.inr ⟨e,n⟩)))));have B:L=false->c.name=⟨#[]⟩:=fun e=>yoG (Decidable.byContradiction fun n=>E (.inl ⟨e,n⟩));have hv:K=false->c.v.kind=0:=fun e=>Decidable.byContradiction fun n=>E (.inr ⟨e,n⟩);have I:¬c.time<0:=fun e=>A (.inl e);have H:¬4611686018427387903<c.time:=fun e=>A (.inr (.inl e));have G:¬c.a<0:=fun e=>A (.inr (.inr (.inl e)));have F:¬c.b<0:=fun e=>A (.inr (.inr (.inr (.inl e))));refine⟨⟨by omega,by omega⟩,by omega,by omega,by omega,h,?_⟩;clear A J E I H G F h;unfold ylb at hk;split at hk
     .rename_i e
      cases hk;exact .inl ⟨e,B rfl,hv rfl⟩
     .split at hk
      .rename_i e
       cases hk;exact .inr (.inl ⟨e,C rfl,B rfl,hv rfl⟩)
      .split at hk
       .rename_i e
        exact .inr (.inr (.inl e))
       .split at hk
        .rename_i e
         cases hk;rcases e with e|e
         .exact .inr (.inr (.inr (.inl ⟨e,D rfl,C rfl,B rfl⟩)))
         .exact .inr (.inr (.inr (.inr (.inr ⟨e,D rfl,C rfl,B rfl⟩))))
        .split at hk
         .rename_i e
          cases hk;exact .inr (.inr (.inr (.inr (.inl ⟨e,D rfl,C rfl,hv rfl⟩))))
         .cases hk
set_option linter.unusedVariables false
theorem yj8 (p:Img):∀(f:Nat) (s:MS),∃k,(ya9 p f s).made=s.made++k
 |0,s=>⟨[],by rw[List.append_nil];rfl⟩
 |f+1,s=>by
  rw[ya9];cases s.over with
  |true=>exact⟨[],(List.append_nil _).symm⟩
  |false=>
   simp only[znl];cases hs:yak p s with
   |none=>exact⟨[],(List.append_nil _).symm⟩
   |some s'=>
    obtain⟨l,h1,_⟩:=MdR.step hs;obtain⟨k,A⟩:=yj8 p f {s' with steps:=s'.steps+1};exact⟨l++k,by dsimp only;rw[A,<-List.append_assoc,<-h1]⟩
theorem ydd (p:Img)(s:MS)(e:Ev):∃k,(yas p s e).2.made=s.made++k:=by
 rcases yeK p s e with⟨_,h⟩|⟨_,_,_,_,h⟩
 .rw[h];exact⟨[],(List.append_nil _).symm⟩
 .rw[h]
  obtain⟨k,hk⟩:=yj8 p (fuel p (hear {s with now:=e.time,steps:=0,events:=s.events+1} e)) (hear {s with now:=e.time,steps:=0,events:=s.events+1} e);exact⟨k,by show(ya9 p _ _).made=_;rw[hk,(yen _ _).1]⟩
def ya1 (l:List Ev):List Ev:=l.filter (fun e=>yaH e.kind)
def ycF (l:List Ev):List Ev:=l.filter (fun e=>ybR e.kind)
theorem yaZ (a b:List Ev):ya1 (a++b)=ya1 a++ya1 b:=List.filter_append ..
theorem ybS (a b:List Ev):ycF (a++b)=ycF a++ycF b:=List.filter_append ..
theorem yih {k:Int}(h:yaH k=true):ybR k=false:=by
 unfold ybR;have:=out_kinds2 h;exact znd (by omega)
where out_kinds2 {k:Int} (h:yaH k=true):k=1\/k=8\/k=9\/k=10\/k=12\/k=14\/k=15\/k=19\/k=20:=znx h
theorem ydQ {k:Int}(h:ybR k=true):yaH k=false:=by
 cases ho:yaH k with
 |false=>rfl
 |true=>rw[yih ho]at h;cases h
def ycv (p:Img)(s:MS)(l:List Ev):MS:=l.foldl (fun s e=>(yas p s e).2) s
theorem ygm (p:Img)(s:MS)(a b:List Ev):ycv p s (a++b)=ycv p (ycv p s a) b:=List.foldl_append ..
def NL (F:List Int)(l:List Cm):List Cm:=l.filter (fun c=> !yaU F c)
theorem yfm (F:List Int)(a b:List Cm):NL F (a++b)=NL F a++NL F b:=List.filter_append ..
theorem ydw (F:List Int)(c:Cm)(l:List Cm):NL F (c::l)=bif yaU F c then NL F l else c::NL F l:=by
 unfold NL;rw[List.filter_cons];cases yaU F c<;>rfl
theorem clone_nil0:yab yag=yag:=by rw[yb7];rfl
def yaX (e:Ev):Ev:={e with id:=0,b:=if e.kind=21 then 0 else e.b,v:=yab e.v}
theorem yku (c:Cm):yaX (evOfC c)=evOfC c:=by
 unfold yaX evOfC
 repeat' split
 all_goals first|rfl|(simp only[ybo,clone_nil0];done)|(exfalso;simp_all;done)|(simp_all [ybo,clone_nil0];done)
theorem ydn (c:Cm):evOfC {c with v:=yab c.v}=evOfC c:=by
 unfold evOfC;simp only[ybo]
theorem ymh (c:Cm)(x:Ev)(hk:ybR x.kind=true):ydL c x=true↔yaX x=evOfC c:=by
 have A:=yku c;constructor
 .intro h
  unfold ydL at h;simp only[Bool.and_eq_true,bne_iff_ne,ne_eq,beq_iff_eq,decide_eq_true_eq]at h;obtain⟨G,L,K,J,F,I,H,C⟩:=h;have C:yab (evOfC c).v=yab x.v:=(ycB _ _).1 C;have hv:yab (evOfC c).v=(evOfC c).v:=congrArg Ev.v A;have B:(0:Int)=(evOfC c).id:=congrArg Ev.id A;have E:(if(evOfC c).kind=21 then 0 else(evOfC c).b)=(evOfC c).b:=congrArg Ev.b A;rw[C]at hv;obtain⟨R,O,Q,T,S,P,M,N⟩:=x;generalize evOfC c=w at*;obtain⟨Y,W,D,a,Z,X,U,V⟩:=w;dsimp only at*;subst L K J I H B;unfold yaX;dsimp only;rw[hv]
  congr 1
  by_cases hk2:D=21
  .rw[if_pos hk2]at E|-;exact E
  .rw[if_neg hk2]
   have e:(D==21)=false:=by rw[zna];exact hk2
   rw[e,znl]at F;exact F.symm
 .intro h
  unfold ydL;rw[<-h];unfold yaX;have G:x.kind≠0:=fun e=>by rw[e]at hk;exact absurd hk (by decide)
  simp only[Bool.and_eq_true,bne_iff_ne,ne_eq,beq_iff_eq,decide_eq_true_eq];refine⟨G,trivial,trivial,trivial,?_,trivial,trivial,?_⟩
  .by_cases hk2:x.kind=21
   .rw[show(x.kind==21)=true by rw[beq_iff_eq];exact hk2];rfl
   .rw[show(x.kind==21)=false by rw[zna];exact hk2,znl,if_neg hk2]
  .rw[ycB,ybo]
theorem ybV {p:Img}{r:RP}(h:r.err≠0):∀l,yar p r l=r
 |[]=>rfl
 |e::l=>by
  rw[yar,show(r.err !=0)=true by simpa using h];rfl
theorem yck {p:Img}{r:RP}(h:r.err=0)(e:Ev)(l:List Ev):yar p r (e::l)=yar p {(ybQ p r e).2 with err:=(ybQ p r e).1} l:=by
 rw[yar,show(r.err !=0)=false by simpa using h];rfl
theorem ydV (p:Img):∀(a:List Ev) (r:RP) (b:List Ev),yar p r (a++b)=yar p (yar p r a) b
 |[],_,_=>rfl
 |e::a,r,b=>by
  by_cases h:r.err=0
  .rw[List.cons_append,yck h,yck h]
   exact ydV p a _ b
  .rw[ybV h,ybV h,ybV h]
theorem ynB {p:Img}{r:RP}{a b:List Ev}(h:(yar p r (a++b)).err=0):(yar p r a).err=0:=by
 rw[ydV]at h;by_cases e:(yar p r a).err=0
 .exact e
 .rw[ybV e]at h
  exact absurd h e
theorem yb3 {r:RP}{e:Ev}(h0:yad e=0)(h1:e.id=(r.seen:Int)+1)(h2:r.closed=false)(h3:(r.seen=0↔e.kind=1)):ycM r e=0:=by
 unfold ycM;rw[if_neg (by simpa using h0),if_neg (by simpa using h1),if_neg (by rw[h2];decide),if_neg (by omega)]
theorem yiK {r:RP}{e:Ev}(h:ycM r e=0):yad e=0/\e.id=(r.seen:Int)+1/\r.closed=false/\(r.seen=0↔e.kind=1):=by
 unfold ycM at h;split at h
 .cases h
 .split at h
  .cases h
  .split at h
   .cases h
   .split at h
    .cases h
    .rename_i C B A D
     exact⟨by simpa using C,by simpa using B,by simpa using A,by omega⟩
set_option linter.unusedVariables false in
theorem yba {p:Img}{r:RP}{e:Ev}(h:ycM r e=0):ybQ p r e=
  (if yaH e.kind=true then((0:Int),{r with m:=(yas p r.m e).2,seen:=r.seen+1,fired:=if e.kind=12 then e.a::r.fired else r.fired,closed:=yaS e.kind})else
  if ybR e.kind=true then
   match r.m.made[ybj r.fired (r.m.made.drop r.next) r.next]? with
   |none=>(150,{r with seen:=r.seen+1,next:=ybj r.fired (r.m.made.drop r.next) r.next})
   |some c=>if ydL c e=true then(0,{r with seen:=r.seen+1,next:=ybj r.fired (r.m.made.drop r.next) r.next+1,closed:=yaS e.kind})else(150,{r with seen:=r.seen+1,next:=ybj r.fired (r.m.made.drop r.next) r.next})
  else(0,{r with seen:=r.seen+1,closed:=yaS e.kind}):Int×RP):=by
 obtain⟨C,B,A,D⟩:=yiK h;unfold ybQ;rw[if_neg (by simpa using C),if_neg (by simpa using B),if_neg (by rw[A];decide),if_neg (by omega)];try rfl
theorem yc1 (F:List Int):∀(l:List Cm) (n:Nat),∃a b,l=a++b/\ybj F l n=n+a.length/\NL F a=[]/\(b=[]\/∃c r,b=c::r/\yaU F c=false)
 |[],n=>⟨[],[],rfl,rfl,rfl,.inl rfl⟩
 |c::l,n=>by
  cases hc:yaU F c with
  |false=>exact⟨[],c::l,rfl,by rw[ybj,hc];rfl,rfl,.inr ⟨c,l,rfl,hc⟩⟩
  |true=>
   obtain⟨a,b,h1,h2,h3,h4⟩:=yc1 F l (n+1);refine⟨c::a,b,by rw[h1];rfl,?_,?_,h4⟩
   .rw[ybj,hc,znm,h2,List.length_cons];omega
   .rw[ydw,hc];exact h3
theorem yl7 {F G:List Int}{c:Cm}(h:∀a,a∈F↔a∈G):yaU F c=yaU G c:=by
 unfold yaU;rw[show decide (c.a∈F)=decide (c.a∈G)from decide_eq_decide.2 (h c.a)]
theorem ylr {F G:List Int}(h:∀a,a∈F↔a∈G)(l:List Cm):NL F l=NL G l:=by
 unfold NL
 congr 1
 funext c
 rw[yl7 h]
structure HI (p:Img)(l:List Ev)(r:RP):Prop where
 fed:yar p (rp0 p) l=r
 err:r.err=0
 seen:r.seen=l.length
 mach:r.m=ycv p (ms0 p) (ya1 l)
 fired:∀a,a∈r.fired↔∃e∈l,e.kind=12/\e.a=a
 closed:r.closed=(l.getLast?.map (fun e=>yaS e.kind)).getD false
 next:r.next<=r.m.made.length
 gone:∀e∈l,e.kind=13->e.a∉r.fired
 found:(ycF l).map yaX=(NL r.fired (r.m.made.take r.next)).map evOfC
theorem yoq (p:Img):HI p [] (rp0 p):=⟨rfl,rfl,rfl,rfl,fun a=>⟨fun h=>(by cases h),fun⟨e,h,_⟩=>(by cases h)⟩,rfl,znq _,(fun e h=>by cases h),rfl⟩
theorem yhv {l:List Ev}{e:Ev}:((l++[e]).getLast?.map (fun e=>yaS e.kind)).getD false=yaS e.kind:=by
 rw[List.getLast?_concat];rfl
theorem yev {p:Img}{l:List Ev}{r:RP}(H:yar p (rp0 p) l=r)(he:r.err=0)(e:Ev):yar p (rp0 p) (l++[e])={(ybQ p r e).2 with err:=(ybQ p r e).1}:=by
 rw[ydV,H,yck he];rfl
theorem HI.o {p:Img}{l:List Ev}{r:RP}(H:HI p l r){e:Ev}(hw:ycM r e=0)(ho:yaH e.kind=true)(hg:e.kind=12->∀c∈l,c.kind=13->c.a≠e.a):
  HI p (l++[e]) {r with m:=(yas p r.m e).2,seen:=r.seen+1,fired:=if e.kind=12 then e.a::r.fired else r.fired,closed:=yaS e.kind}:=by
 obtain⟨k,hk⟩:=ydd p r.m e;have M:((yas p r.m e).2.made).take r.next=r.m.made.take r.next:=by rw[hk,List.take_append_of_le_length H.next]
 have J:e.kind≠13:=fun h=>by rw[h]at ho;exact absurd ho (by decide)
 refine⟨?_,H.err,?_,?_,fun a=> ?_,yhv.symm,?_,?_,?_⟩
 .rw[yev H.fed H.err,yba hw,if_pos ho]
  exact congrArg (fun z:Int=>({r with m:=(yas p r.m e).2,seen:=r.seen+1,fired:=if e.kind=12 then e.a::r.fired else r.fired,closed:=yaS e.kind,err:=z}:RP)) H.err.symm
 .rw[znk,<-H.seen];rfl
 .rw[yaZ,ygm,<-H.mach,show ya1 [e]=[e] by unfold ya1;rw[List.filter_cons,if_pos ho];rfl];rfl
 .dsimp only
  by_cases h12:e.kind=12
  .rw[if_pos h12,List.mem_cons,H.fired]
   constructor
   .rintro(h|⟨x,A,h⟩)
    .exact⟨e,List.mem_append_right _ (List.mem_singleton.2 rfl),h12,h.symm⟩
    .exact⟨x,List.mem_append_left _ A,h⟩
   .rintro⟨x,A,G,E⟩
    rcases List.mem_append.1 A with A|A
    .exact .inr ⟨x,A,G,E⟩
    .rw[List.mem_singleton.1 A]at E;exact .inl E.symm
  .rw[if_neg h12,H.fired]
   constructor
   .rintro⟨x,A,h⟩;exact⟨x,List.mem_append_left _ A,h⟩
   .rintro⟨x,A,G,E⟩
    rcases List.mem_append.1 A with A|A
    .exact⟨x,A,G,E⟩
    .rw[List.mem_singleton.1 A]at G;exact absurd G h12
 .show r.next<=((yas p r.m e).2.made).length
  rw[hk,znk];have:=H.next;omega
 .intro c D B
  have D:c∈l:=by
   rcases List.mem_append.1 D with D|D
   .exact D
   .rw[List.mem_singleton.1 D]at B;exact absurd B J
  dsimp only;by_cases h12:e.kind=12
  .rw[if_pos h12,List.mem_cons]
   rintro(h|h)
   .exact hg h12 c D B h
   .exact H.gone c D B h
  .rw[if_neg h12]
   exact H.gone c D B
 .dsimp only
  rw[ybS,show ycF [e]=[] by unfold ycF;rw[List.filter_cons,if_neg (by rw[yih ho];decide)];rfl,List.append_nil,M,H.found];by_cases h12:e.kind=12
  .rw[if_pos h12]
   congr 1
   apply List.filter_congr;intro c D;by_cases C:yaU r.fired c=true
   .have:yaU (e.a::r.fired) c=true:=by
     unfold yaU at C|-;rw[Bool.and_eq_true,decide_eq_true_iff]at C|-;exact⟨C.1,zme _ C.2⟩
    rw[C,this]
   .have C:yaU r.fired c=false:=by simpa using C
    have:yaU (e.a::r.fired) c=false:=by
     cases h:yaU (e.a::r.fired) c with
     |false=>rfl
     |true=>
      exfalso;unfold yaU at h C;rw[Bool.and_eq_true,decide_eq_true_iff,beq_iff_eq]at h;obtain⟨E,I⟩:=h;rw[show(c.kind==2)=true by rw[beq_iff_eq];exact E,Bool.true_and,znz]at C;have I:c.a=e.a:=(List.mem_cons.1 I).resolve_right C;have hm:evOfC c∈(ycF l).map yaX:=by
       rw[H.found];refine List.mem_map_of_mem (List.mem_filter.2 ⟨D,?_⟩);unfold yaU;rw[show decide (c.a∈r.fired)=false from znd C,Bool.and_false];rfl
      obtain⟨x,A,F⟩:=List.mem_map.1 hm;have N:evOfC c=⟨0,c.time,13,c.a,0,⟨#[]⟩,⟨#[]⟩,yag⟩:=by unfold evOfC;rw[if_neg (by omega),if_pos E]
      rw[N]at F;have L:x.kind=13:=congrArg Ev.kind F;have K:x.a=c.a:=congrArg Ev.a F;exact hg h12 x (List.mem_filter.1 A).1 L (K.trans I)
    rw[C,this]
  .rw[if_neg h12]
theorem HI.task {p:Img}{l:List Ev}{r:RP}(H:HI p l r){e:Ev}(hw:ycM r e=0)(ho:yaH e.kind=false)(hm:ybR e.kind=false):HI p (l++[e]) {r with seen:=r.seen+1,closed:=yaS e.kind}:=by
 have D:e.kind≠12:=fun h=>by rw[h]at ho;exact absurd ho (by decide)
 have C:e.kind≠13:=fun h=>by rw[h]at hm;exact absurd hm (by decide)
 refine⟨?_,H.err,?_,?_,fun a=> ?_,yhv.symm,H.next,?_,?_⟩
 .rw[yev H.fed H.err,yba hw,if_neg (by rw[ho];decide),if_neg (by rw[hm];decide)]
  exact congrArg (fun z:Int=>({r with seen:=r.seen+1,closed:=yaS e.kind,err:=z}:RP)) H.err.symm
 .rw[znk,<-H.seen];rfl
 .rw[yaZ,show ya1 [e]=[] by unfold ya1;rw[List.filter_cons,if_neg (by rw[ho];decide)];rfl,List.append_nil];exact H.mach
 .rw[H.fired]
  constructor
  .rintro⟨x,A,h⟩;exact⟨x,List.mem_append_left _ A,h⟩
  .rintro⟨x,A,E,F⟩
   rcases List.mem_append.1 A with A|A
   .exact⟨x,A,E,F⟩
   .rw[List.mem_singleton.1 A]at E;exact absurd E D
 .intro c B hk
  rcases List.mem_append.1 B with B|B
  .exact H.gone c B hk
  .rw[List.mem_singleton.1 B]at hk;exact absurd hk C
 .rw[ybS,show ycF [e]=[] by unfold ycF;rw[List.filter_cons,if_neg (by rw[hm];decide)];rfl,List.append_nil]
  exact H.found
theorem HI.made {p:Img}{l:List Ev}{r:RP}(H:HI p l r){e:Ev}(hw:ycM r e=0)(hm:ybR e.kind=true){c:Cm}{t:List Cm}(hn:NL r.fired (r.m.made.drop r.next)=c::t)(hf:yaX e=evOfC c):
  ∃n,HI p (l++[e]) {r with seen:=r.seen+1,next:=n,closed:=yaS e.kind}/\NL r.fired (r.m.made.drop n)=t:=by
 have T:e.kind≠12:=fun h=>by rw[h]at hm;exact absurd hm (by decide)
 have U:=ydQ hm;obtain⟨a,b,I,S,R,N⟩:=yc1 r.fired (r.m.made.drop r.next) r.next;rcases N with rfl|⟨c',s,rfl,N⟩
 .rw[I,List.append_nil,R]at hn;cases hn
 rw[I,yfm,R,List.nil_append,ydw,N,znl]at hn;obtain⟨rfl,W⟩:=List.cons.inj hn;have C:r.m.made=(r.m.made.take r.next++a)++c'::s:=by rw[List.append_assoc,<-I,List.take_append_drop]
 have E:(r.m.made.take r.next++a).length=r.next+a.length:=by rw[znk,List.length_take,Nat.min_eq_left H.next]
 have F:r.m.made[r.next+a.length]? =some c':=by
  rw[C,<-E,List.getElem?_append_right (znc _),Nat.sub_self];rfl
 obtain⟨J,G⟩:∃J,J=r.m.made.take r.next++a:=⟨_,rfl⟩;have D:r.m.made=J++c'::s:=by rw[G];exact C
 have K:J.length=r.next+a.length:=by rw[G];exact E
 have P:r.m.made.take (r.next+a.length+1)=(r.m.made.take r.next++a)++[c']:=by
  rw[<-G,D,<-K,List.take_append,zmj (Nat.le_succ _),show J.length+1 - J.length=1 by omega];rfl
 have Q:r.m.made.drop (r.next+a.length+1)=s:=by
  rw[D,<-K,<-List.drop_drop,List.drop_left];rfl
 refine⟨r.next+a.length+1,⟨?_,H.err,?_,?_,fun x=> ?_,yhv.symm,?_,?_,?_⟩,by rw[Q];exact W⟩
 .rw[yev H.fed H.err,yba hw,if_neg (by rw[U];decide),if_pos hm,S,F]
  dsimp only;rw[if_pos ((ymh c' e hm).2 hf)];exact congrArg (fun z:Int=>({r with seen:=r.seen+1,next:=r.next+a.length+1,closed:=yaS e.kind,err:=z}:RP)) H.err.symm
 .rw[znk,<-H.seen];rfl
 .rw[yaZ,show ya1 [e]=[] by unfold ya1;rw[List.filter_cons,if_neg (by rw[U];decide)];rfl,List.append_nil];exact H.mach
 .rw[H.fired]
  constructor
  .rintro⟨x,B,h⟩;exact⟨x,List.mem_append_left _ B,h⟩
  .rintro⟨x,B,I,S⟩
   rcases List.mem_append.1 B with B|B
   .exact⟨x,B,I,S⟩
   .rw[List.mem_singleton.1 B]at I;exact absurd I T
 .show r.next+a.length+1<=r.m.made.length
  have:=(zge F).1;omega
 .intro x B hk
  rcases List.mem_append.1 B with B|B
  .exact H.gone x B hk
  .rw[List.mem_singleton.1 B]at hk|-
   have A:(yaX e).kind=(evOfC c').kind:=congrArg Ev.kind hf;have O:(yaX e).a=(evOfC c').a:=congrArg Ev.a hf;have A:e.kind=(evOfC c').kind:=A;have O:e.a=(evOfC c').a:=O;have M:c'.kind=2/\(evOfC c').a=c'.a:=by
    rw[hk]at A;unfold evOfC at A|-;split at A
    .cases A
    .split at A
     .rename_i X V
      exact⟨V,by rw[if_neg X,if_pos V]⟩
     .split at A
      .cases A
      .split at A
       .cases A
       .split at A
        .cases A
        .split at A
         .cases A
         .cases A
   intro L;rw[O,M.2]at L;have:yaU r.fired c'=true:=by
    unfold yaU;rw[Bool.and_eq_true,decide_eq_true_iff,beq_iff_eq];exact⟨M.1,L⟩
   rw[N]at this;cases this
 .dsimp only
  rw[ybS,show ycF [e]=[e] by unfold ycF;rw[List.filter_cons,if_pos hm];rfl,List.map_append,H.found,P,yfm,yfm,R,List.append_nil,ydw,N,znl,List.map_append];show _=_++[evOfC c'];rw[<-hf];rfl
theorem yig {p:Img}:∀(l:List Ev) (r:RP),(∀e∈l,yaH e.kind=true)->r.err=0->(yar p r l).err=0->(yar p r l).next=r.next/\(∃k,(yar p r l).m.made=r.m.made++k)/\∀a∈r.fired,a∈(yar p r l).fired
 |[],r,_,_,_=>⟨rfl,⟨[],(List.append_nil _).symm⟩,fun _ h=>h⟩
 |e::l,r,h,he,hf=>by
  rw[yck he]at hf|-;by_cases hw:ycM r e=0
  .rw[yba hw,if_pos (h e zmf)]at hf|-
   dsimp only at hf|-;obtain⟨h1,⟨k,h2⟩,h3⟩:=yig l _ (fun x hx=>h x (zme _ hx)) rfl hf;obtain⟨B,A⟩:=ydd p r.m e;refine⟨h1,⟨B++k,by rw[h2,<-List.append_assoc,<-A]⟩,fun a ha=>h3 a ?_⟩;dsimp only;split
   .exact zme _ ha
   .exact ha
  .rw[yhn hw]at hf
   rw[ybV (by exact hw)]at hf;exact absurd hf hw
set_option linter.unusedVariables false
structure BK where
 list:List Ev
 over:Bool
def ycx (b:BK)(e:Ev):BK:=⟨b.list++[{e with id:=(b.list.length:Int)+1}],b.over||yaS e.kind⟩
def ycn (l:List Ev)(a:Int):Bool:=l.any (fun e=>(e.kind==12)&&(e.a==a))
def yfD (l:List Ev)(a:Int):Bool:=l.any (fun e=>(e.kind==13)&&(e.a==a))
def evW (c:Cm):Ev:=if(evOfC c).kind=21 then{evOfC c with b:=2}else evOfC c
def yiD (most:Int):List Cm->Int->BK->BK
 |[],_,b=>b
 |c::r,i,b=>bif (i==most)||b.over then b else yiD most r (i+1) (bif (c.kind !=2)|| !ycn b.list c.a then ycx b (evW c)else b)
def yht (l:List Ev):Int:=(l.getLast?.map (·.time)).getD 0
def yc0 (l:List Ev):Ev:=⟨0,yht l,4,0,0,⟨#[]⟩,⟨#[]⟩,yag⟩
def rB (p:Img)(b:BK):RP:=yar p (rp0 p) b.list
def ya8 (p:Img)(b:BK)(seen:Nat)(most:Int):Bool×BK:=
 bif (yar p (rp0 p) (b.list.take seen)).err !=0 then(false,b)else(true,yiD most (ybM (yar p (rp0 p) (b.list.take seen))) 0 (ycx b (yc0 b.list)))
def seenB (last len:Nat)(y:Int):Nat:=max last (len - (max 0 (min y ((len:Int) - 1))).toNat)
theorem yml (c:Cm):yaX (evW c)=evOfC c:=by
 have h:=yku c;unfold evW;by_cases hk:(evOfC c).kind=21
 .rw[if_pos hk]
  unfold yaX at h|-;rw[if_pos hk]at h;dsimp only;rw[if_pos hk];exact h
 .rw[if_neg hk];exact h
theorem yng (e:Ev)(n:Int):yaX {e with id:=n}=yaX e:=rfl
theorem ykX (c:Cm):evW {c with v:=yab c.v}=evW c:=by unfold evW;rw[ydn]
theorem ymw {e:Ev}(h:yad e=0){n:Int}(h1:1<=n)(h2:n<=1048576):yad {e with id:=n}=0:=by
 have hk:=ybn h;unfold yad at h|-;dsimp only;split at h
 .cases h
 .rw[if_neg (by omega)]
  split at h
  .cases h
  .exact h
theorem ycm {e:Ev}{hA hB hN hT hV:Bool}(hh:ygo e.kind=some (hA,hB,hN,hT,hV))(hi:1<=e.id/\e.id<=1048576)(ht:0<=e.time/\e.time<=4611686018427387903)(ha:0<=e.a/\(hA=false->e.a=0))(hb:0<=e.b/\(hB=false->e.b=0))(hn:e.name.size<=64/\(hN=false->e.name.size=0))(hx:e.text.size<=128/\(hT=false->e.text.size=0))(hv:checkL e.v=0/\(hV=false->e.v.kind=0)):yad e=0:=by
 unfold yad;rw[hh];dsimp only;rw[if_neg (by omega),if_neg,if_neg (by omega),if_neg,if_neg]
 .exact hv.1
 .exact fun h=>h.2 (hv.2 h.1)
 .exact fun h=>h.elim (fun h=>h.2 (hn.2 h.1)) (fun h=>h.2 (hx.2 h.1))
 .rintro(h|h|h|h)
  .omega
  .omega
  .exact h.2 (ha.2 h.1)
  .exact h.2 (hb.2 h.1)
theorem ykW {c:Cm}(h:yaV c=0){n:Int}(h1:1<=n)(h2:n<=1048576):yad {evW c with id:=n}=0/\ybR (evW c).kind=true/\(c.v.wf->(evW c).v.wf):=by
 obtain⟨⟨G,F⟩,I,Q,K,hv,hk⟩:=ydW h;have E:checkL (yab c.v)=0:=by rw[yaJ];exact hv
 have O:0<=yg2 c.time c.b:=by
  unfold yg2;split
  .decide
  .split
   .decide
   .omega
 have A:checkL yag=0:=ybP;have N:c.v.kind=0->(yab c.v).kind=0:=fun e=>by rw[yaL];exact e
 have D:(yab c.v).wf\/¬c.v.wf:=by
  by_cases e:c.v.wf
  .exact .inl (ybd _ e)
  .exact .inr e
 have C:yag.wf:=ycY;have M:(⟨#[]⟩:ByteArray).size=0:=rfl;have P:yag.kind=0:=rfl;rcases hk with⟨k,H,v0⟩|⟨k,J,H,v0⟩|k|⟨k,L,J,H⟩|⟨k,L,J,v0⟩|⟨k,L,J,H⟩
 .have e:evOfC c=⟨0,c.time,11,c.a,yg2 c.time c.b,⟨#[]⟩,⟨#[]⟩,yag⟩:=by unfold evOfC;rw[if_pos k]
  have B:evW c=evOfC c:=by unfold evW;rw[e];rfl
  rw[B,e];refine⟨?_,rfl,fun _=>C⟩;exact ycm (hA:=true) (hB:=true) (hN:=false) (hT:=false) (hV:=false) rfl ⟨h1,h2⟩ ⟨G,F⟩ ⟨I,(fun h=>by cases h)⟩ ⟨O,(fun h=>by cases h)⟩ ⟨(by show(⟨#[]⟩:ByteArray).size<=64;decide),(fun _=>rfl)⟩ ⟨by show(⟨#[]⟩:ByteArray).size<=128;decide,fun _=>rfl⟩ ⟨A,(fun _=>rfl)⟩
 .have e:evOfC c=⟨0,c.time,13,c.a,0,⟨#[]⟩,⟨#[]⟩,yag⟩:=by unfold evOfC;rw[if_neg (by omega),if_pos k]
  have B:evW c=evOfC c:=by unfold evW;rw[e];rfl
  rw[B,e];refine⟨?_,rfl,fun _=>C⟩;exact ycm (hA:=true) (hB:=false) (hN:=false) (hT:=false) (hV:=false) rfl ⟨h1,h2⟩ ⟨G,F⟩ ⟨I,(fun h=>by cases h)⟩ ⟨Int.le_refl _,(fun _=>rfl)⟩ ⟨(by show(⟨#[]⟩:ByteArray).size<=64;decide),(fun _=>rfl)⟩ ⟨by show(⟨#[]⟩:ByteArray).size<=128;decide,fun _=>rfl⟩ ⟨A,(fun _=>rfl)⟩
 .have e:evOfC c=⟨0,c.time,7,c.a,c.b,c.name,⟨#[]⟩,yab c.v⟩:=by unfold evOfC;rw[if_neg (by omega),if_neg (by omega),if_pos k]
  have B:evW c=evOfC c:=by unfold evW;rw[e];rfl
  rw[B,e];refine⟨?_,rfl,fun hw=>D.resolve_right (fun x=>x hw)⟩;exact ycm (hA:=true) (hB:=true) (hN:=true) (hT:=false) (hV:=true) rfl ⟨h1,h2⟩ ⟨G,F⟩ ⟨I,(fun h=>by cases h)⟩ ⟨Q,(fun h=>by cases h)⟩ ⟨K,(fun h=>by cases h)⟩ ⟨by show(⟨#[]⟩:ByteArray).size<=128;decide,fun _=>rfl⟩ ⟨E,(fun h=>by cases h)⟩
 .have e:evOfC c=⟨0,c.time,16,0,0,⟨#[]⟩,⟨#[]⟩,yab c.v⟩:=by unfold evOfC;rw[if_neg (by omega),if_neg (by omega),if_neg (by omega),if_pos k]
  have B:evW c=evOfC c:=by unfold evW;rw[e];rfl
  rw[B,e];refine⟨?_,rfl,fun hw=>D.resolve_right (fun x=>x hw)⟩;exact ycm (hA:=false) (hB:=false) (hN:=false) (hT:=false) (hV:=true) rfl ⟨h1,h2⟩ ⟨G,F⟩ ⟨Int.le_refl _,(fun _=>rfl)⟩ ⟨Int.le_refl _,(fun _=>rfl)⟩ ⟨(by show(⟨#[]⟩:ByteArray).size<=64;decide),(fun _=>rfl)⟩ ⟨by show(⟨#[]⟩:ByteArray).size<=128;decide,fun _=>rfl⟩ ⟨E,(fun h=>by cases h)⟩
 .have e:evOfC c=⟨0,c.time,17,0,0,c.name,⟨#[]⟩,yag⟩:=by unfold evOfC;rw[if_neg (by omega),if_neg (by omega),if_neg (by omega),if_neg (by omega),if_pos k]
  have B:evW c=evOfC c:=by unfold evW;rw[e];rfl
  rw[B,e];refine⟨?_,rfl,fun _=>C⟩;exact ycm (hA:=false) (hB:=false) (hN:=true) (hT:=false) (hV:=false) rfl ⟨h1,h2⟩ ⟨G,F⟩ ⟨Int.le_refl _,(fun _=>rfl)⟩ ⟨Int.le_refl _,(fun _=>rfl)⟩ ⟨K,(fun h=>by cases h)⟩ ⟨by show(⟨#[]⟩:ByteArray).size<=128;decide,fun _=>rfl⟩ ⟨A,(fun _=>rfl)⟩
 .have e:evOfC c=⟨0,c.time,21,0,0,⟨#[]⟩,⟨#[]⟩,yab c.v⟩:=by unfold evOfC;rw[if_neg (by omega),if_neg (by omega),if_neg (by omega),if_neg (by omega),if_neg (by omega),if_pos k]
  have B:evW c={evOfC c with b:=2}:=by unfold evW;rw[e];rfl
  rw[B,e];refine⟨?_,rfl,fun hw=>D.resolve_right (fun x=>x hw)⟩;exact ycm (hA:=false) (hB:=true) (hN:=false) (hT:=false) (hV:=true) rfl ⟨h1,h2⟩ ⟨G,F⟩ ⟨Int.le_refl _,(fun _=>rfl)⟩ ⟨(by show(0:Int)<=2;decide),(fun h=>by cases h)⟩ ⟨(by show(⟨#[]⟩:ByteArray).size<=64;decide),(fun _=>rfl)⟩ ⟨by show(⟨#[]⟩:ByteArray).size<=128;decide,fun _=>rfl⟩ ⟨E,(fun h=>by cases h)⟩
theorem ykw (p:Img):∀(l:List Ev) (r:RP),r.next<=r.m.made.length->(yar p r l).next<=(yar p r l).m.made.length
 |[],_,h=>h
 |e::l,r,h=>by
  by_cases he:r.err=0
  .rw[yck he]
   apply ykw p l;by_cases hw:ycM r e=0
   .rw[yba hw]
    obtain⟨a,b,h1,h2,h3,h4⟩:=yc1 r.fired (r.m.made.drop r.next) r.next;have A:(r.m.made.drop r.next).length=a.length+b.length:=by rw[h1,znk]
    rw[List.length_drop]at A;split
    .obtain⟨k,hk⟩:=ydd p r.m e
     show r.next<=((yas p r.m e).2.made).length;rw[hk,znk];omega
    .split
     .split
      .show ybj r.fired (r.m.made.drop r.next) r.next<=r.m.made.length
       rw[h2];omega
      .rename_i c B
       have:=(zge B).1;split
       .show ybj r.fired (r.m.made.drop r.next) r.next+1<=r.m.made.length
        omega
       .show ybj r.fired (r.m.made.drop r.next) r.next<=r.m.made.length
        omega
     .exact h
   .rw[yhn hw];exact h
  .rw[ybV he];exact h
structure Bk (p:Img)(fa:Fa)(b:BK)(n t:Nat):Prop where
 hi:HI p b.list (rB p b)
 over:(rB p b).closed=b.over
 evs:∀e∈b.list,yad e=0/\e.v.wf
 o:(ya1 b.list).length<=n
 cnt:b.list.length<=n+t+(ycF b.list).length
 st:St p fa (rB p b).m
 ev:(rB p b).m.events<=n
section
variable{p:Img} {fa:Fa} {b:BK} {n t:Nat}
theorem yoF (S:St p fa (ms0 p)):Bk p fa ⟨[],false⟩ 0 0:=⟨yoq p,rfl,(fun _ h=>by cases h),znc _,znc _,S,znc _⟩
theorem Bk.len (B:Bk p fa b n t)(hn:n<=30):b.list.length<=n+t+600000:=by
 have E:=B.cnt;have D:(ycF b.list).length<=(rB p b).m.made.length:=by
  have h:=congrArg List.length B.hi.found;rw[zmd,zmd]at h;rw[h];exact znf (List.length_filter_le _ _) (by rw[List.length_take];exact Nat.min_le_right _ _)
 have C:=B.st.bd;have A:=B.ev;omega
theorem Bk.want (B:Bk p fa b n t)(ho:b.over=false){e:Ev}(h0:yad {e with id:=(b.list.length:Int)+1}=0)(hf:b.list=[]↔e.kind=1):ycM (rB p b) {e with id:=(b.list.length:Int)+1}=0:=by
 refine yb3 h0 (by rw[B.hi.seen]) (B.over.trans ho) ?_;rw[B.hi.seen,List.length_eq_zero_iff];exact hf
theorem Bk.out_ (B:Bk p fa b n t)(K:Known p fa)(P:Pk p)(hsp:fa.span<=p.code.length+1)(ho:b.over=false){e:Ev}(h0:yad e=0)(hw:e.v.wf)(hk:yaH e.kind=true)(hf:b.list=[]↔e.kind=1)(hg:e.kind=12->yfD b.list e.a=false)(hn:n+1<=30)(ht:t<=400000):Bk p fa (ycx b e) (n+1) t:=by
 have G:=B.len (by omega);have D:=ymw h0 (n:=(b.list.length:Int)+1) (by omega) (by omega);have H:=B.hi.o (B.want ho D hf) hk (fun h12 c hcm h13 ha=>by
  have:=hg h12;unfold yfD at this;rw[List.any_eq_false]at this;refine this c hcm ?_;rw[Bool.and_eq_true,beq_iff_eq,beq_iff_eq];exact⟨h13,ha⟩)
 have C:rB p (ycx b e)=_:=H.fed;obtain⟨F,E⟩:=B.st.apply K P hsp {e with id:=(b.list.length:Int)+1} hw (by have:=B.ev;omega);refine⟨by rw[C];exact H,by rw[C];show _=(b.over||yaS e.kind);rw[ho];rfl,fun x A=> ?_,?_,?_,by rw[C];exact F,by rw[C];have:=B.ev;exact znf E (by omega)⟩
 .rcases List.mem_append.1 A with A|A
  .exact B.evs x A
  .rw[List.mem_singleton.1 A];exact⟨D,hw⟩
 .show(ya1 (b.list++[_])).length<=_
  rw[yaZ,znk];have E:(ya1 [({e with id:=(b.list.length:Int)+1}:Ev)]).length<=1:=List.length_filter_le _ _;have:=B.o;omega
 .show(b.list++[_]).length<=_+(ycF (b.list++[_])).length
  rw[ybS,znk,znk,zmh];have:=B.cnt;omega
theorem Bk.task (B:Bk p fa b n t)(ho:b.over=false)(hne:b.list≠[])(hn:n<=30)(ht:t<=400000):Bk p fa (ycx b (yc0 b.list)) n (t+1)/\(rB p (ycx b (yc0 b.list))).m=(rB p b).m/\(rB p (ycx b (yc0 b.list))).next=(rB p b).next/\(rB p (ycx b (yc0 b.list))).fired=(rB p b).fired:=by
 have G:=B.len hn;have E:0<=yht b.list/\yht b.list<=4611686018427387903:=by
  unfold yht;cases hq:b.list.getLast? with
  |none=>exact absurd (List.getLast?_eq_none_iff.1 hq) hne
  |some x=>
   exact(ybn (B.evs x (List.mem_of_getLast? hq)).1).1
 have F:yad {yc0 b.list with id:=(b.list.length:Int)+1}=0:=by
  have D:checkL yag=0:=ybP;exact ycm (hA:=true) (hB:=true) (hN:=false) (hT:=false) (hV:=false) rfl ⟨by show(1:Int)<=(b.list.length:Int)+1;omega,by show(b.list.length:Int)+1<=1048576;omega⟩ E ⟨Int.le_refl _,fun h=>by cases h⟩ ⟨Int.le_refl _,fun h=>by cases h⟩ ⟨by show(⟨#[]⟩:ByteArray).size<=64;decide,fun _=>rfl⟩ ⟨by show(⟨#[]⟩:ByteArray).size<=128;decide,fun _=>rfl⟩ ⟨D,fun _=>rfl⟩
 have H:=B.hi.task (B.want ho F ⟨fun h=>absurd h hne,fun h=>absurd h (by show¬(4:Int)=1;decide)⟩) rfl rfl;have A:rB p (ycx b (yc0 b.list))=_:=H.fed;refine⟨⟨by rw[A];exact H,by rw[A];show _=(b.over||yaS 4);rw[ho];rfl,fun x C=> ?_,?_,?_,by rw[A];exact B.st,by rw[A];exact B.ev⟩,by rw[A],by rw[A],by rw[A]⟩
 .rcases List.mem_append.1 C with C|C
  .exact B.evs x C
  .rw[List.mem_singleton.1 C];exact⟨F,ycY⟩
 .show(ya1 (b.list++[_])).length<=_
  rw[yaZ];exact(by rw[List.append_nil];exact B.o:(ya1 b.list++[]).length<=n)
 .show(b.list++[_]).length<=_+(ycF (b.list++[_])).length
  rw[ybS,znk,znk,zmh];have:=B.cnt;omega
theorem Bk.cmd (B:Bk p fa b n t)(ho:b.over=false)(hne:b.list≠[])(hn:n<=30)(ht:t<=400000){c:Cm}{tl:List Cm}(hnl:NL (rB p b).fired ((rB p b).m.made.drop (rB p b).next)=c::tl):
  Bk p fa (ycx b (evW c)) n t/\(rB p (ycx b (evW c))).fired=(rB p b).fired/\NL (rB p b).fired ((rB p (ycx b (evW c))).m.made.drop (rB p (ycx b (evW c))).next)=tl:=by
 have L:=B.len hn;have I:c∈(rB p b).m.made:=List.mem_of_mem_drop (List.mem_filter.1 (show c∈NL (rB p b).fired ((rB p b).m.made.drop (rB p b).next) by rw[hnl];exact zmf)).1;have E:=B.st.rk.vs.mds c I;obtain⟨J,A,F⟩:=ykW E.1 (n:=(b.list.length:Int)+1) (by omega) (by omega);obtain⟨K,H,G⟩:=B.hi.made (B.want ho J ⟨fun h=>absurd h hne,fun h=>absurd A (by rw[h];decide)⟩) A hnl (by rw[yng];exact yml c);have C:rB p (ycx b (evW c))=_:=H.fed;refine⟨⟨by rw[C];exact H,by rw[C];show _=(b.over||yaS (evW c).kind);rw[ho];rfl,fun x D=> ?_,?_,?_,by rw[C];exact B.st,by rw[C];exact B.ev⟩,by rw[C],by rw[C];exact G⟩
 .rcases List.mem_append.1 D with D|D
  .exact B.evs x D
  .rw[List.mem_singleton.1 D];exact⟨J,F E.2⟩
 .show(ya1 (b.list++[_])).length<=_
  rw[yaZ,show ya1 [({evW c with id:=(b.list.length:Int)+1}:Ev)]=[] by unfold ya1;rw[List.filter_cons,if_neg (by show¬yaH (evW c).kind=true;rw[ydQ A];decide)];rfl,List.append_nil];exact B.o
 .show(b.list++[_]).length<=_+(ycF (b.list++[_])).length
  rw[ybS,znk,znk,zmh,show ycF [({evW c with id:=(b.list.length:Int)+1}:Ev)]=[({evW c with id:=(b.list.length:Int)+1}:Ev)] by unfold ycF;rw[List.filter_cons,if_pos (show ybR (evW c).kind=true from A)];rfl,zmh];have:=B.cnt;omega
theorem Bk.late (B:Bk p fa b n t)(c:Cm):((c.kind !=2)|| !ycn b.list c.a)= !yaU (rB p b).fired c:=by
 have h:ycn b.list c.a=decide (c.a∈(rB p b).fired):=by
  rw[Bool.eq_iff_iff,decide_eq_true_iff,B.hi.fired];unfold ycn;rw[List.any_eq_true];constructor
  .rintro⟨x,A,h⟩
   rw[Bool.and_eq_true,beq_iff_eq,beq_iff_eq]at h;exact⟨x,A,h⟩
  .rintro⟨x,A,h⟩
   exact⟨x,A,by rw[Bool.and_eq_true,beq_iff_eq,beq_iff_eq];exact h⟩
 rw[h];unfold yaU;cases hk:(c.kind==2)<;>simp[bne,hk]
structure CmI (p:Img)(fa:Fa)(n t:Nat)(F:List Int)(cs rest:List Cm)(b:BK):Prop where
 bk:Bk p fa b n t
 ne:b.list≠[]
 fired:(rB p b).fired=F
 nl:NL F ((rB p b).m.made.drop (rB p b).next)=NL F cs++rest
theorem CmI.step {F:List Int}{c:Cm}{cs rest:List Cm}(C:CmI p fa n t F (c::cs) rest b)(hn:n<=30)(ht:t<=400000)(ho:b.over=false):CmI p fa n t F cs rest (bif (c.kind !=2)|| !ycn b.list c.a then ycx b (evW c)else b):=by
 have h:=C.nl;rw[C.bk.late,C.fired];rw[ydw]at h;cases hl:yaU F c with
 |true=>
  rw[hl,znm]at h;exact⟨C.bk,C.ne,C.fired,h⟩
 |false=>
  rw[hl,znl,List.cons_append]at h;have A:=C.fired;subst A;obtain⟨E,D,B⟩:=C.bk.cmd ho C.ne hn ht h;exact⟨E,by show b.list++[_]≠[];simp,D,B⟩
theorem yhH (hn:n<=30)(ht:t<=400000)(most:Int){F:List Int}:∀(cs:List Cm) (i:Int) (b:BK) (rest:List Cm),Bk p fa b n t->b.list≠[]->(rB p b).fired=F->NL F ((rB p b).m.made.drop (rB p b).next)=NL F cs++rest->Bk p fa (yiD most cs i b) n t/\(yiD most cs i b).list≠[]/\ya1 (yiD most cs i b).list=ya1 b.list
 |[],_,b,_,B,hne,_,_=>⟨B,hne,rfl⟩
 |c::cs,i,b,rest,B,hne,hF,h=>by
  rw[yiD];cases hb:((i==most)||b.over)with
  |true=>exact⟨B,hne,rfl⟩
  |false=>
   rw[znl];have ho:b.over=false:=(Bool.or_eq_false_iff.1 hb).2;rw[B.late,hF];rw[ydw]at h;cases hl:yaU F c with
   |true=>
    rw[hl,znm]at h;exact yhH hn ht most cs (i+1) b rest B hne hF h
   |false=>
    rw[hl,znl,List.cons_append]at h;subst hF;obtain⟨J,I,H⟩:=B.cmd ho hne hn ht h;obtain⟨G,E,D⟩:=yhH hn ht most cs (i+1) (ycx b (evW c)) rest J (by show b.list++[_]≠[];simp) I H;refine⟨G,E,D.trans ?_⟩;show ya1 (b.list++[_])=_;have A:ybR (evW c).kind=true:=by
     have C:c∈(rB p b).m.made:=List.mem_of_mem_drop (List.mem_filter.1 (show c∈NL (rB p b).fired ((rB p b).m.made.drop (rB p b).next) by rw[h];exact zmf)).1;exact(ykW (B.st.rk.vs.mds c C).1 (n:=1) (by decide) (by decide)).2.1
    rw[yaZ,show ya1 [({evW c with id:=(b.list.length:Int)+1}:Ev)]=[] by unfold ya1;rw[List.filter_cons,if_neg (by show¬yaH (evW c).kind=true;rw[ydQ A];decide)];rfl,List.append_nil]
theorem Bk.start (B:Bk p fa b n t)(ho:b.over=false)(hne:b.list≠[])(hn:n<=30)(ht:t+1<=400000){seen:Nat}(htl:∀e∈b.list.drop seen,yaH e.kind=true):
  (yar p (rp0 p) (b.list.take seen)).err=0/\(yar p (rp0 p) (b.list.take seen)).next<=(yar p (rp0 p) (b.list.take seen)).m.made.length/\∃F rest,CmI p fa n (t+1) F (ybM (yar p (rp0 p) (b.list.take seen))) rest (ycx b (yc0 b.list)):=by
 have D:=B.hi.err;have E:b.list.take seen++b.list.drop seen=b.list:=List.take_append_drop _ _;have I:(yar p (rp0 p) (b.list.take seen)).err=0:=ynB (b:=b.list.drop seen) (by rw[E];exact D);obtain⟨M,Q,P,O⟩:=B.task ho hne hn (by omega);have H:yar p (yar p (rp0 p) (b.list.take seen)) (b.list.drop seen)=rB p b:=by rw[<-ydV,E];rfl
 obtain⟨L,⟨k,K⟩,J⟩:=yig (b.list.drop seen) (yar p (rp0 p) (b.list.take seen)) htl I (by rw[H];exact D);rw[H]at L K J;have C:(ycx b (yc0 b.list)).list≠[]:=by show b.list++[_]≠[];simp
 have G:(yar p (rp0 p) (b.list.take seen)).next<=(yar p (rp0 p) (b.list.take seen)).m.made.length:=ykw p (b.list.take seen) (rp0 p) (znq _);refine⟨I,G,?_⟩;by_cases A:(yar p (rp0 p) (b.list.take seen)).closed=true
 .have:ybM (yar p (rp0 p) (b.list.take seen))=[]:=by unfold ybM;rw[A,Bool.or_true];rfl
  rw[this];exact⟨_,_,M,C,rfl,rfl⟩
 .have A:(yar p (rp0 p) (b.list.take seen)).closed=false:=by simpa using A
  have N:ybM (yar p (rp0 p) (b.list.take seen))=NL (yar p (rp0 p) (b.list.take seen)).fired ((yar p (rp0 p) (b.list.take seen)).m.made.drop (yar p (rp0 p) (b.list.take seen)).next):=by
   unfold ybM NL;rw[I,A];rfl
  refine⟨(rB p b).fired,NL (rB p b).fired k,M,C,O,?_⟩;rw[Q,P,K,L,List.drop_append_of_le_length G,yfm]
  congr 1
  rw[N];unfold NL;rw[List.filter_filter];apply List.filter_congr;intro c _;cases hl:yaU (yar p (rp0 p) (b.list.take seen)).fired c with
  |false=>simp
  |true=>
   have:yaU (rB p b).fired c=true:=by
    unfold yaU at hl|-;rw[Bool.and_eq_true,decide_eq_true_iff]at hl|-;exact⟨hl.1,J _ hl.2⟩
   rw[this];rfl
theorem Bk.commit (B:Bk p fa b n t)(ho:b.over=false)(hne:b.list≠[])(hn:n<=30)(ht:t+1<=400000){seen:Nat}(htl:∀e∈b.list.drop seen,yaH e.kind=true)(most:Int):
  (yar p (rp0 p) (b.list.take seen)).err=0/\(ya8 p b seen most).1=true/\Bk p fa (ya8 p b seen most).2 n (t+1)/\(ya8 p b seen most).2.list≠[]:=by
 obtain⟨D,_,F,A,C⟩:=B.start ho hne hn ht htl;have H:ya8 p b seen most=(true,yiD most (ybM (yar p (rp0 p) (b.list.take seen))) 0 (ycx b (yc0 b.list))):=by
  unfold ya8;rw[D];rfl
 rw[H];obtain⟨G,E,_⟩:=yhH hn ht most (ybM (yar p (rp0 p) (b.list.take seen))) 0 (ycx b (yc0 b.list)) A C.bk C.ne C.fired C.nl;exact⟨D,rfl,G,E⟩
end
end Go.Va
