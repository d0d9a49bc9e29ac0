/- Parts of the proof: what the functions and the plain laws give that later parts lean on. Conditions: none beyond those that each theorem names. -/
import Derived.Test.YtpagmlndgblhhaaGreatDoorT10
set_option maxRecDepth 100000
set_option maxHeartbeats 8000000
namespace Go.Va
open Go.Own Go.RowKit
open Go.Proofs.YtpagmlndgblhhaaGreatDoor
set_option linter.unusedVariables false
theorem yjV (p:Img):∀(f:Nat) (s:MS),∃k,(ya3 p f s).made=s.made++k
 |0,s=>⟨[],by rw[List.append_nil];rfl⟩
 |f+1,s=>by
  rw[ya3];cases s.over with
  |true=>exact⟨[],(List.append_nil _).symm⟩
  |false=>
   simp only[znl];cases hs:yak p s with
   |none=>exact⟨[],(List.append_nil _).symm⟩
   |some s'=>
    obtain⟨l,h1,_⟩:=MdR.step hs;obtain⟨k,A⟩:=yjV p f {s' with steps:=s'.steps+1};exact⟨l++k,by dsimp only;rw[A,<-List.append_assoc,<-h1]⟩
theorem yda (p:Img)(s:MS)(e:Ev):∃k,(yat p s e).2.made=s.made++k:=by
 rcases yeI p s e with⟨_,h⟩|⟨_,_,_,_,h⟩
 .rw[h];exact⟨[],(List.append_nil _).symm⟩
 .rw[h]
  obtain⟨k,hk⟩:=yjV p (fuel p (hear {s with now:=e.time,steps:=0,events:=s.events+1} e)) (hear {s with now:=e.time,steps:=0,events:=s.events+1} e);exact⟨k,by show(ya3 p _ _).made=_;rw[hk,(yem _ _).1]⟩
def ya8 (l:List Ev):List Ev:=l.filter (fun e=>yaI e.kind)
def ydw (l:List Ev):List Ev:=l.filter (fun e=>yaX e.kind)
theorem yaQ (a b:List Ev):ya8 (a++b)=ya8 a++ya8 b:=List.filter_append ..
theorem ybS (a b:List Ev):ydw (a++b)=ydw a++ydw b:=List.filter_append ..
theorem yh9 {k:Int}(h:yaI k=true):yaX k=false:=by
 unfold yaX;have:=out_kinds2 h;exact znd (by omega)
where out_kinds2 {k:Int} (h:yaI k=true):k=1\/k=8\/k=9\/k=10\/k=12\/k=14\/k=15\/k=19\/k=20:=znx h
theorem ycx {k:Int}(h:yaX k=true):yaI k=false:=by
 cases ho:yaI k with
 |false=>rfl
 |true=>rw[yh9 ho]at h;cases h
def yc3 (p:Img)(s:MS)(l:List Ev):MS:=l.foldl (fun s e=>(yat p s e).2) s
theorem yge (p:Img)(s:MS)(a b:List Ev):yc3 p s (a++b)=yc3 p (yc3 p s a) b:=List.foldl_append ..
def NL (F:List Int)(l:List Cm):List Cm:=l.filter (fun c=> !yaU F c)
theorem ygE (F:List Int)(a b:List Cm):NL F (a++b)=NL F a++NL F b:=List.filter_append ..
theorem yoO (F:List Int):NL F []=[]:=rfl
theorem ydr (F:List Int)(c:Cm)(l:List Cm):NL F (c::l)=bif yaU F c then NL F l else c::NL F l:=by
 unfold NL;rw[List.filter_cons];cases yaU F c<;>rfl
def ydb (e:Ev):Ev:={e with id:=0,b:=if e.kind=21 then 0 else e.b,v:=yab e.v}
theorem yfe:yab yag=yag:=by rw[ybP];rfl
theorem ykf (c:Cm):ydb (evOfC c)=evOfC c:=by
 unfold ydb evOfC
 repeat' split
 all_goals first|rfl|(simp only[ybO,yfe];done)|(exfalso;simp_all;done)|(simp_all [ybO,yfe];done)
theorem ydj (c:Cm):evOfC {c with v:=yab c.v}=evOfC c:=by
 unfold evOfC;simp only[ybO]
theorem yfx (c:Cm)(x:Ev)(hk:yaX x.kind=true):ydG c x=true↔ydb x=evOfC c:=by
 have A:=ykf c;constructor
 .intro h
  unfold ydG at h;simp only[Bool.and_eq_true,bne_iff_ne,ne_eq,beq_iff_eq,decide_eq_true_eq]at h;obtain⟨G,L,K,J,F,I,H,C⟩:=h;have C:yab (evOfC c).v=yab x.v:=(ydR _ _).1 C;have hv:yab (evOfC c).v=(evOfC c).v:=congrArg Ev.v A;have B:(0:Int)=(evOfC c).id:=congrArg Ev.id A;have E:(if(evOfC c).kind=21 then 0 else(evOfC c).b)=(evOfC c).b:=congrArg Ev.b A;rw[C]at hv;obtain⟨R,O,Q,T,S,P,M,N⟩:=x;generalize evOfC c=w at*;obtain⟨Y,W,D,a,Z,X,U,V⟩:=w;dsimp only at*;subst L K J I H B;unfold ydb;dsimp only;rw[hv]
  congr 1
  by_cases hk2:D=21
  .rw[if_pos hk2]at E|-;exact E
  .rw[if_neg hk2]
   have e:(D==21)=false:=by rw[zna];exact hk2
   rw[e,znl]at F;exact F.symm
 .intro h
  unfold ydG;rw[<-h];unfold ydb;have G:x.kind≠0:=fun e=>by rw[e]at hk;exact absurd hk (by decide)
  simp only[Bool.and_eq_true,bne_iff_ne,ne_eq,beq_iff_eq,decide_eq_true_eq];refine⟨G,trivial,trivial,trivial,?_,trivial,trivial,?_⟩
  .by_cases hk2:x.kind=21
   .rw[show(x.kind==21)=true by rw[beq_iff_eq];exact hk2];rfl
   .rw[show(x.kind==21)=false by rw[zna];exact hk2,znl,if_neg hk2]
  .rw[ydR,ybO]
theorem ybV {p:Img}{r:RP}(h:r.err≠0):∀l,yan p r l=r
 |[]=>rfl
 |e::l=>by
  rw[yan,show(r.err !=0)=true by simpa using h];rfl
theorem ybU {p:Img}{r:RP}(h:r.err=0)(e:Ev)(l:List Ev):yan p r (e::l)=yan p {(ybK p r e).2 with err:=(ybK p r e).1} l:=by
 rw[yan,show(r.err !=0)=false by simpa using h];rfl
theorem yc4 (p:Img):∀(a:List Ev) (r:RP) (b:List Ev),yan p r (a++b)=yan p (yan p r a) b
 |[],_,_=>rfl
 |e::a,r,b=>by
  by_cases h:r.err=0
  .rw[List.cons_append,ybU h,ybU h]
   exact yc4 p a _ b
  .rw[ybV h,ybV h,ybV h]
theorem yht {p:Img}{r:RP}{a b:List Ev}(h:(yan p r (a++b)).err=0):(yan p r a).err=0:=by
 rw[yc4]at h;by_cases e:(yan p r a).err=0
 .exact e
 .rw[ybV e]at h
  exact absurd h e
theorem ybH {r:RP}{e:Ev}(h0:yae e=0)(h1:e.id=(r.seen:Int)+1)(h2:r.closed=false)(h3:(r.seen=0↔e.kind=1)):ycm r e=0:=by
 unfold ycm;rw[if_neg (by simpa using h0),if_neg (by simpa using h1),if_neg (by rw[h2];decide),if_neg (by omega)]
theorem yeY {r:RP}{e:Ev}(h:ycm r e=0):yae e=0/\e.id=(r.seen:Int)+1/\r.closed=false/\(r.seen=0↔e.kind=1):=by
 unfold ycm at h;split at h
 .cases h
 .split at h
  .cases h
  .split at h
   .cases h
   .split at h
    .cases h
    .rename_i C B A D
     exact⟨by simpa using C,by simpa using B,by simpa using A,by omega⟩
set_option linter.unusedVariables false in
theorem ya0 {p:Img}{r:RP}{e:Ev}(h:ycm r e=0):ybK p r e=
  (if yaI e.kind=true then((0:Int),{r with m:=(yat p r.m e).2,seen:=r.seen+1,fired:=if e.kind=12 then e.a::r.fired else r.fired,closed:=yaS e.kind})else
  if yaX e.kind=true then
   match r.m.made[ybi r.fired (r.m.made.drop r.next) r.next]? with
   |none=>(150,{r with seen:=r.seen+1,next:=ybi r.fired (r.m.made.drop r.next) r.next})
   |some c=>if ydG c e=true then(0,{r with seen:=r.seen+1,next:=ybi r.fired (r.m.made.drop r.next) r.next+1,closed:=yaS e.kind})else(150,{r with seen:=r.seen+1,next:=ybi r.fired (r.m.made.drop r.next) r.next})
  else(0,{r with seen:=r.seen+1,closed:=yaS e.kind}):Int×RP):=by
 obtain⟨C,B,A,D⟩:=yeY h;unfold ybK;rw[if_neg (by simpa using C),if_neg (by simpa using B),if_neg (by rw[A];decide),if_neg (by omega)]
 try rfl
theorem ycV (F:List Int):∀(l:List Cm) (n:Nat),∃a b,l=a++b/\ybi F l n=n+a.length/\NL F a=[]/\(b=[]\/∃c r,b=c::r/\yaU F c=false)
 |[],n=>⟨[],[],rfl,rfl,rfl,.inl rfl⟩
 |c::l,n=>by
  cases hc:yaU F c with
  |false=>exact⟨[],c::l,rfl,by rw[ybi,hc];rfl,rfl,.inr ⟨c,l,rfl,hc⟩⟩
  |true=>
   obtain⟨a,b,h1,h2,h3,h4⟩:=ycV F l (n+1);refine⟨c::a,b,by rw[h1];rfl,?_,?_,h4⟩
   .rw[ybi,hc,znm,h2,List.length_cons];omega
   .rw[ydr,hc];exact h3
theorem ylW {F G:List Int}{c:Cm}(h:∀a,a∈F↔a∈G):yaU F c=yaU G c:=by
 unfold yaU;rw[show decide (c.a∈F)=decide (c.a∈G)from decide_eq_decide.2 (h c.a)]
theorem yoP {F G:List Int}(h:∀a,a∈F↔a∈G)(l:List Cm):NL F l=NL G l:=by
 unfold NL
 congr 1
 funext c
 rw[ylW h]
structure HI (p:Img)(l:List Ev)(r:RP):Prop where
 fed:yan p (rp0 p) l=r
 err:r.err=0
 seen:r.seen=l.length
 mach:r.m=yc3 p (ms0 p) (ya8 l)
 fired:∀a,a∈r.fired↔∃e∈l,e.kind=12/\e.a=a
 closed:r.closed=(l.getLast?.map (fun e=>yaS e.kind)).getD false
 next:r.next<=r.m.made.length
 gone:∀e∈l,e.kind=13->e.a∉r.fired
 found:(ydw l).map ydb=(NL r.fired (r.m.made.take r.next)).map evOfC
theorem yog (p:Img):HI p [] (rp0 p):=⟨rfl,rfl,rfl,rfl,fun a=>⟨fun h=>(by cases h),fun⟨e,h,_⟩=>(by cases h)⟩,rfl,znq _,(fun e h=>by cases h),rfl⟩
theorem yhj {l:List Ev}{e:Ev}:((l++[e]).getLast?.map (fun e=>yaS e.kind)).getD false=yaS e.kind:=by
 rw[List.getLast?_concat];rfl
theorem yev {p:Img}{l:List Ev}{r:RP}(H:yan p (rp0 p) l=r)(he:r.err=0)(e:Ev):yan p (rp0 p) (l++[e])={(ybK p r e).2 with err:=(ybK p r e).1}:=by
 rw[yc4,H,ybU he];rfl
theorem HI.o {p:Img}{l:List Ev}{r:RP}(H:HI p l r){e:Ev}(hw:ycm r e=0)(ho:yaI e.kind=true)(hg:e.kind=12->∀c∈l,c.kind=13->c.a≠e.a):
  HI p (l++[e]) {r with m:=(yat p r.m e).2,seen:=r.seen+1,fired:=if e.kind=12 then e.a::r.fired else r.fired,closed:=yaS e.kind}:=by
 obtain⟨k,hk⟩:=yda p r.m e;have M:((yat p r.m e).2.made).take r.next=r.m.made.take r.next:=by rw[hk,List.take_append_of_le_length H.next]
 have J:e.kind≠13:=fun h=>by rw[h]at ho;exact absurd ho (by decide)
 refine⟨?_,H.err,?_,?_,fun a=> ?_,yhj.symm,?_,?_,?_⟩
 .rw[yev H.fed H.err,ya0 hw,if_pos ho]
  exact congrArg (fun z:Int=>({r with m:=(yat p r.m e).2,seen:=r.seen+1,fired:=if e.kind=12 then e.a::r.fired else r.fired,closed:=yaS e.kind,err:=z}:RP)) H.err.symm
 .rw[znk,<-H.seen];rfl
 .rw[yaQ,yge,<-H.mach,show ya8 [e]=[e] by unfold ya8;rw[List.filter_cons,if_pos ho];rfl];rfl
 .dsimp only
  by_cases h12:e.kind=12
  .rw[if_pos h12,List.mem_cons,H.fired]
   constructor
   .rintro(h|⟨x,A,h⟩)
    .exact⟨e,List.mem_append_right _ (List.mem_singleton.2 rfl),h12,h.symm⟩
    .exact⟨x,List.mem_append_left _ A,h⟩
   .rintro⟨x,A,G,E⟩
    rcases List.mem_append.1 A with A|A
    .exact .inr ⟨x,A,G,E⟩
    .rw[List.mem_singleton.1 A]at E;exact .inl E.symm
  .rw[if_neg h12,H.fired]
   constructor
   .rintro⟨x,A,h⟩;exact⟨x,List.mem_append_left _ A,h⟩
   .rintro⟨x,A,G,E⟩
    rcases List.mem_append.1 A with A|A
    .exact⟨x,A,G,E⟩
    .rw[List.mem_singleton.1 A]at G;exact absurd G h12
 .show r.next<=((yat p r.m e).2.made).length
  rw[hk,znk];have:=H.next;omega
 .intro c D B
  have D:c∈l:=by
   rcases List.mem_append.1 D with D|D
   .exact D
   .rw[List.mem_singleton.1 D]at B;exact absurd B J
  dsimp only;by_cases h12:e.kind=12
  .rw[if_pos h12,List.mem_cons]
   rintro(h|h)
   .exact hg h12 c D B h
   .exact H.gone c D B h
  .rw[if_neg h12]
   exact H.gone c D B
 .dsimp only
  rw[ybS,show ydw [e]=[] by unfold ydw;rw[List.filter_cons,if_neg (by rw[yh9 ho];decide)];rfl,List.append_nil,M,H.found];by_cases h12:e.kind=12
  .rw[if_pos h12]
   congr 1
   apply List.filter_congr;intro c D;by_cases C:yaU r.fired c=true
   .have:yaU (e.a::r.fired) c=true:=by
     unfold yaU at C|-;rw[Bool.and_eq_true,decide_eq_true_iff]at C|-;exact⟨C.1,zme _ C.2⟩
    rw[C,this]
   .have C:yaU r.fired c=false:=by simpa using C
    have:yaU (e.a::r.fired) c=false:=by
     cases h:yaU (e.a::r.fired) c with
     |false=>rfl
     |true=>
      exfalso;unfold yaU at h C;rw[Bool.and_eq_true,decide_eq_true_iff,beq_iff_eq]at h;obtain⟨E,I⟩:=h;rw[show(c.kind==2)=true by rw[beq_iff_eq];exact E,Bool.true_and,znz]at C;have I:c.a=e.a:=(List.mem_cons.1 I).resolve_right C;have hm:evOfC c∈(ydw l).map ydb:=by
       rw[H.found];refine List.mem_map_of_mem (List.mem_filter.2 ⟨D,?_⟩);unfold yaU;rw[show decide (c.a∈r.fired)=false from znd C,Bool.and_false];rfl
      obtain⟨x,A,F⟩:=List.mem_map.1 hm;have N:evOfC c=⟨0,c.time,13,c.a,0,⟨#[]⟩,⟨#[]⟩,yag⟩:=by unfold evOfC;rw[if_neg (by omega),if_pos E]
      rw[N]at F;have L:x.kind=13:=congrArg Ev.kind F;have K:x.a=c.a:=congrArg Ev.a F;exact hg h12 x (List.mem_filter.1 A).1 L (K.trans I)
    rw[C,this]
  .rw[if_neg h12]
theorem HI.task {p:Img}{l:List Ev}{r:RP}(H:HI p l r){e:Ev}(hw:ycm r e=0)(ho:yaI e.kind=false)(hm:yaX e.kind=false):HI p (l++[e]) {r with seen:=r.seen+1,closed:=yaS e.kind}:=by
 have D:e.kind≠12:=fun h=>by rw[h]at ho;exact absurd ho (by decide)
 have C:e.kind≠13:=fun h=>by rw[h]at hm;exact absurd hm (by decide)
 refine⟨?_,H.err,?_,?_,fun a=> ?_,yhj.symm,H.next,?_,?_⟩
 .rw[yev H.fed H.err,ya0 hw,if_neg (by rw[ho];decide),if_neg (by rw[hm];decide)]
  exact congrArg (fun z:Int=>({r with seen:=r.seen+1,closed:=yaS e.kind,err:=z}:RP)) H.err.symm
 .rw[znk,<-H.seen];rfl
 .rw[yaQ,show ya8 [e]=[] by unfold ya8;rw[List.filter_cons,if_neg (by rw[ho];decide)];rfl,List.append_nil];exact H.mach
 .rw[H.fired]
  constructor
  .rintro⟨x,A,h⟩;exact⟨x,List.mem_append_left _ A,h⟩
  .rintro⟨x,A,E,F⟩
   rcases List.mem_append.1 A with A|A
   .exact⟨x,A,E,F⟩
   .rw[List.mem_singleton.1 A]at E;exact absurd E D
 .intro c B hk
  rcases List.mem_append.1 B with B|B
  .exact H.gone c B hk
  .rw[List.mem_singleton.1 B]at hk;exact absurd hk C
 .rw[ybS,show ydw [e]=[] by unfold ydw;rw[List.filter_cons,if_neg (by rw[hm];decide)];rfl,List.append_nil]
  exact H.found
theorem HI.made {p:Img}{l:List Ev}{r:RP}(H:HI p l r){e:Ev}(hw:ycm r e=0)(hm:yaX e.kind=true){c:Cm}{t:List Cm}(hn:NL r.fired (r.m.made.drop r.next)=c::t)(hf:ydb e=evOfC c):
  ∃n,HI p (l++[e]) {r with seen:=r.seen+1,next:=n,closed:=yaS e.kind}/\NL r.fired (r.m.made.drop n)=t:=by
 have T:e.kind≠12:=fun h=>by rw[h]at hm;exact absurd hm (by decide)
 have U:=ycx hm;obtain⟨a,b,I,S,R,N⟩:=ycV r.fired (r.m.made.drop r.next) r.next;rcases N with rfl|⟨c',s,rfl,N⟩
 .rw[I,List.append_nil,R]at hn;cases hn
 rw[I,ygE,R,List.nil_append,ydr,N,znl]at hn;obtain⟨rfl,W⟩:=List.cons.inj hn;have C:r.m.made=(r.m.made.take r.next++a)++c'::s:=by rw[List.append_assoc,<-I,List.take_append_drop]
 have E:(r.m.made.take r.next++a).length=r.next+a.length:=by rw[znk,List.length_take,Nat.min_eq_left H.next]
 have F:r.m.made[r.next+a.length]? =some c':=by
  rw[C,<-E,List.getElem?_append_right (znc _),Nat.sub_self];rfl
 obtain⟨J,G⟩:∃J,J=r.m.made.take r.next++a:=⟨_,rfl⟩;have D:r.m.made=J++c'::s:=by rw[G];exact C
 have K:J.length=r.next+a.length:=by rw[G];exact E
 have P:r.m.made.take (r.next+a.length+1)=(r.m.made.take r.next++a)++[c']:=by
  rw[<-G,D,<-K,List.take_append,zmj (Nat.le_succ _),show J.length+1 - J.length=1 by omega];rfl
 have Q:r.m.made.drop (r.next+a.length+1)=s:=by
  rw[D,<-K,<-List.drop_drop,List.drop_left];rfl
 refine⟨r.next+a.length+1,⟨?_,H.err,?_,?_,fun x=> ?_,yhj.symm,?_,?_,?_⟩,by rw[Q];exact W⟩
 .rw[yev H.fed H.err,ya0 hw,if_neg (by rw[U];decide),if_pos hm,S,F]
  dsimp only;rw[if_pos ((yfx c' e hm).2 hf)];exact congrArg (fun z:Int=>({r with seen:=r.seen+1,next:=r.next+a.length+1,closed:=yaS e.kind,err:=z}:RP)) H.err.symm
 .rw[znk,<-H.seen];rfl
 .rw[yaQ,show ya8 [e]=[] by unfold ya8;rw[List.filter_cons,if_neg (by rw[U];decide)];rfl,List.append_nil];exact H.mach
 .rw[H.fired]
  constructor
  .rintro⟨x,B,h⟩;exact⟨x,List.mem_append_left _ B,h⟩
  .rintro⟨x,B,I,S⟩
   rcases List.mem_append.1 B with B|B
   .exact⟨x,B,I,S⟩
   .rw[List.mem_singleton.1 B]at I;exact absurd I T
 .show r.next+a.length+1<=r.m.made.length
  have:=(zge F).1;omega
 .intro x B hk
  rcases List.mem_append.1 B with B|B
  .exact H.gone x B hk
  .rw[List.mem_singleton.1 B]at hk|-
   have A:(ydb e).kind=(evOfC c').kind:=congrArg Ev.kind hf;have O:(ydb e).a=(evOfC c').a:=congrArg Ev.a hf;have A:e.kind=(evOfC c').kind:=A;have O:e.a=(evOfC c').a:=O;have M:c'.kind=2/\(evOfC c').a=c'.a:=by
    rw[hk]at A;unfold evOfC at A|-;split at A
    .cases A
    .split at A
     .rename_i X V
      exact⟨V,by rw[if_neg X,if_pos V]⟩
     .split at A
      .cases A
      .split at A
       .cases A
       .split at A
        .cases A
        .split at A
         .cases A
         .cases A
   intro L;rw[O,M.2]at L;have:yaU r.fired c'=true:=by
    unfold yaU;rw[Bool.and_eq_true,decide_eq_true_iff,beq_iff_eq];exact⟨M.1,L⟩
   rw[N]at this;cases this
 .dsimp only
  rw[ybS,show ydw [e]=[e] by unfold ydw;rw[List.filter_cons,if_pos hm];rfl,List.map_append,H.found,P,ygE,ygE,R,List.append_nil,ydr,N,znl,List.map_append];show _=_++[evOfC c'];rw[<-hf];rfl
theorem yh8 {p:Img}:∀(l:List Ev) (r:RP),(∀e∈l,yaI e.kind=true)->r.err=0->(yan p r l).err=0->(yan p r l).next=r.next/\(∃k,(yan p r l).m.made=r.m.made++k)/\∀a∈r.fired,a∈(yan p r l).fired
 |[],r,_,_,_=>⟨rfl,⟨[],(List.append_nil _).symm⟩,fun _ h=>h⟩
 |e::l,r,h,he,hf=>by
  rw[ybU he]at hf|-;by_cases hw:ycm r e=0
  .rw[ya0 hw,if_pos (h e zmf)]at hf|-
   dsimp only at hf|-;obtain⟨h1,⟨k,h2⟩,h3⟩:=yh8 l _ (fun x hx=>h x (zme _ hx)) rfl hf;obtain⟨B,A⟩:=yda p r.m e;refine⟨h1,⟨B++k,by rw[h2,<-List.append_assoc,<-A]⟩,fun a ha=>h3 a ?_⟩;dsimp only;split
   .exact zme _ ha
   .exact ha
  .rw[yfr hw]at hf
   rw[ybV (by exact hw)]at hf;exact absurd hf hw
set_option linter.unusedVariables false
structure BK where
 list:List Ev
 over:Bool
def ycu (b:BK)(e:Ev):BK:=⟨b.list++[{e with id:=(b.list.length:Int)+1}],b.over||yaS e.kind⟩
def yck (l:List Ev)(a:Int):Bool:=l.any (fun e=>(e.kind==12)&&(e.a==a))
def yfv (l:List Ev)(a:Int):Bool:=l.any (fun e=>(e.kind==13)&&(e.a==a))
def evW (c:Cm):Ev:=if(evOfC c).kind=21 then{evOfC c with b:=2}else evOfC c
def yiu (most:Int):List Cm->Int->BK->BK
 |[],_,b=>b
 |c::r,i,b=>bif (i==most)||b.over then b else yiu most r (i+1) (bif (c.kind !=2)|| !yck b.list c.a then ycu b (evW c)else b)
def yhh (l:List Ev):Int:=(l.getLast?.map (·.time)).getD 0
def ycU (l:List Ev):Ev:=⟨0,yhh l,4,0,0,⟨#[]⟩,⟨#[]⟩,yag⟩
def rB (p:Img)(b:BK):RP:=yan p (rp0 p) b.list
def ybc (p:Img)(b:BK)(seen:Nat)(most:Int):Bool×BK:=
 bif (yan p (rp0 p) (b.list.take seen)).err !=0 then(false,b)else(true,yiu most (ybJ (yan p (rp0 p) (b.list.take seen))) 0 (ycu b (ycU b.list)))
def seenB (last len:Nat)(y:Int):Nat:=max last (len - (max 0 (min y ((len:Int) - 1))).toNat)
theorem yl9 (c:Cm):ydb (evW c)=evOfC c:=by
 have h:=ykf c;unfold evW;by_cases hk:(evOfC c).kind=21
 .rw[if_pos hk]
  unfold ydb at h|-;rw[if_pos hk]at h;dsimp only;rw[if_pos hk];exact h
 .rw[if_neg hk];exact h
theorem ym7 (e:Ev)(n:Int):ydb {e with id:=n}=ydb e:=rfl
theorem ykK (c:Cm):evW {c with v:=yab c.v}=evW c:=by unfold evW;rw[ydj]
theorem ymj {e:Ev}(h:yae e=0){n:Int}(h1:1<=n)(h2:n<=1048576):yae {e with id:=n}=0:=by
 have hk:=ya1 h;unfold yae at h|-;dsimp only;split at h
 .cases h
 .rw[if_neg (by omega)]
  split at h
  .cases h
  .exact h
theorem ybY {e:Ev}{hA hB hN hT hV:Bool}(hh:yfB e.kind=some (hA,hB,hN,hT,hV))(hi:1<=e.id/\e.id<=1048576)(ht:0<=e.time/\e.time<=4611686018427387903)(ha:0<=e.a/\(hA=false->e.a=0))(hb:0<=e.b/\(hB=false->e.b=0))(hn:e.name.size<=64/\(hN=false->e.name.size=0))(hx:e.text.size<=128/\(hT=false->e.text.size=0))(hv:checkL e.v=0/\(hV=false->e.v.kind=0)):yae e=0:=by
 unfold yae;rw[hh];dsimp only;rw[if_neg (by omega),if_neg,if_neg (by omega),if_neg,if_neg]
 .exact hv.1
 .exact fun h=>h.2 (hv.2 h.1)
 .exact fun h=>h.elim (fun h=>h.2 (hn.2 h.1)) (fun h=>h.2 (hx.2 h.1))
 .rintro(h|h|h|h)
  .omega
  .omega
  .exact h.2 (ha.2 h.1)
  .exact h.2 (hb.2 h.1)
theorem ykJ {c:Cm}(h:yaV c=0){n:Int}(h1:1<=n)(h2:n<=1048576):yae {evW c with id:=n}=0/\yaX (evW c).kind=true/\(c.v.wf->(evW c).v.wf):=by
 obtain⟨⟨G,F⟩,I,Q,K,hv,hk⟩:=ydS h;have E:checkL (yab c.v)=0:=by rw[yaN];exact hv
 have O:0<=ygS c.time c.b:=by
  unfold ygS;split
  .decide
  .split
   .decide
   .omega
 have A:checkL yag=0:=ybQ;have N:c.v.kind=0->(yab c.v).kind=0:=fun e=>by rw[ya2];exact e
 have D:(yab c.v).wf\/¬c.v.wf:=by
  by_cases e:c.v.wf
  .exact .inl (ybX _ e)
  .exact .inr e
 have C:yag.wf:=ycS;have M:(⟨#[]⟩:ByteArray).size=0:=rfl;have P:yag.kind=0:=rfl;rcases hk with⟨k,H,v0⟩|⟨k,J,H,v0⟩|k|⟨k,L,J,H⟩|⟨k,L,J,v0⟩|⟨k,L,J,H⟩
 .have e:evOfC c=⟨0,c.time,11,c.a,ygS c.time c.b,⟨#[]⟩,⟨#[]⟩,yag⟩:=by unfold evOfC;rw[if_pos k]
  have B:evW c=evOfC c:=by unfold evW;rw[e];rfl
  rw[B,e];refine⟨?_,rfl,fun _=>C⟩;exact ybY (hA:=true) (hB:=true) (hN:=false) (hT:=false) (hV:=false) rfl ⟨h1,h2⟩ ⟨G,F⟩ ⟨I,(fun h=>by cases h)⟩ ⟨O,(fun h=>by cases h)⟩ ⟨(by show(⟨#[]⟩:ByteArray).size<=64;decide),(fun _=>rfl)⟩ ⟨by show(⟨#[]⟩:ByteArray).size<=128;decide,fun _=>rfl⟩ ⟨A,(fun _=>rfl)⟩
 .have e:evOfC c=⟨0,c.time,13,c.a,0,⟨#[]⟩,⟨#[]⟩,yag⟩:=by unfold evOfC;rw[if_neg (by omega),if_pos k]
  have B:evW c=evOfC c:=by unfold evW;rw[e];rfl
  rw[B,e];refine⟨?_,rfl,fun _=>C⟩;exact ybY (hA:=true) (hB:=false) (hN:=false) (hT:=false) (hV:=false) rfl ⟨h1,h2⟩ ⟨G,F⟩ ⟨I,(fun h=>by cases h)⟩ ⟨Int.le_refl _,(fun _=>rfl)⟩ ⟨(by show(⟨#[]⟩:ByteArray).size<=64;decide),(fun _=>rfl)⟩ ⟨by show(⟨#[]⟩:ByteArray).size<=128;decide,fun _=>rfl⟩ ⟨A,(fun _=>rfl)⟩
 .have e:evOfC c=⟨0,c.time,7,c.a,c.b,c.name,⟨#[]⟩,yab c.v⟩:=by unfold evOfC;rw[if_neg (by omega),if_neg (by omega),if_pos k]
  have B:evW c=evOfC c:=by unfold evW;rw[e];rfl
  rw[B,e];refine⟨?_,rfl,fun hw=>D.resolve_right (fun x=>x hw)⟩;exact ybY (hA:=true) (hB:=true) (hN:=true) (hT:=false) (hV:=true) rfl ⟨h1,h2⟩ ⟨G,F⟩ ⟨I,(fun h=>by cases h)⟩ ⟨Q,(fun h=>by cases h)⟩ ⟨K,(fun h=>by cases h)⟩ ⟨by show(⟨#[]⟩:ByteArray).size<=128;decide,fun _=>rfl⟩ ⟨E,(fun h=>by cases h)⟩
 .have e:evOfC c=⟨0,c.time,16,0,0,⟨#[]⟩,⟨#[]⟩,yab c.v⟩:=by unfold evOfC;rw[if_neg (by omega),if_neg (by omega),if_neg (by omega),if_pos k]
  have B:evW c=evOfC c:=by unfold evW;rw[e];rfl
  rw[B,e];refine⟨?_,rfl,fun hw=>D.resolve_right (fun x=>x hw)⟩;exact ybY (hA:=false) (hB:=false) (hN:=false) (hT:=false) (hV:=true) rfl ⟨h1,h2⟩ ⟨G,F⟩ ⟨Int.le_refl _,(fun _=>rfl)⟩ ⟨Int.le_refl _,(fun _=>rfl)⟩ ⟨(by show(⟨#[]⟩:ByteArray).size<=64;decide),(fun _=>rfl)⟩ ⟨by show(⟨#[]⟩:ByteArray).size<=128;decide,fun _=>rfl⟩ ⟨E,(fun h=>by cases h)⟩
 .have e:evOfC c=⟨0,c.time,17,0,0,c.name,⟨#[]⟩,yag⟩:=by unfold evOfC;rw[if_neg (by omega),if_neg (by omega),if_neg (by omega),if_neg (by omega),if_pos k]
  have B:evW c=evOfC c:=by unfold evW;rw[e];rfl
  rw[B,e];refine⟨?_,rfl,fun _=>C⟩;exact ybY (hA:=false) (hB:=false) (hN:=true) (hT:=false) (hV:=false) rfl ⟨h1,h2⟩ ⟨G,F⟩ ⟨Int.le_refl _,(fun _=>rfl)⟩ ⟨Int.le_refl _,(fun _=>rfl)⟩ ⟨K,(fun h=>by cases h)⟩ ⟨by show(⟨#[]⟩:ByteArray).size<=128;decide,fun _=>rfl⟩ ⟨A,(fun _=>rfl)⟩
 .have e:evOfC c=⟨0,c.time,21,0,0,⟨#[]⟩,⟨#[]⟩,yab c.v⟩:=by unfold evOfC;rw[if_neg (by omega),if_neg (by omega),if_neg (by omega),if_neg (by omega),if_neg (by omega),if_pos k]
  have B:evW c={evOfC c with b:=2}:=by unfold evW;rw[e];rfl
  rw[B,e];refine⟨?_,rfl,fun hw=>D.resolve_right (fun x=>x hw)⟩;exact ybY (hA:=false) (hB:=true) (hN:=false) (hT:=false) (hV:=true) rfl ⟨h1,h2⟩ ⟨G,F⟩ ⟨Int.le_refl _,(fun _=>rfl)⟩ ⟨(by show(0:Int)<=2;decide),(fun h=>by cases h)⟩ ⟨(by show(⟨#[]⟩:ByteArray).size<=64;decide),(fun _=>rfl)⟩ ⟨by show(⟨#[]⟩:ByteArray).size<=128;decide,fun _=>rfl⟩ ⟨E,(fun h=>by cases h)⟩
theorem yki (p:Img):∀(l:List Ev) (r:RP),r.next<=r.m.made.length->(yan p r l).next<=(yan p r l).m.made.length
 |[],_,h=>h
 |e::l,r,h=>by
  by_cases he:r.err=0
  .rw[ybU he]
   apply yki p l;by_cases hw:ycm r e=0
   .rw[ya0 hw]
    obtain⟨a,b,h1,h2,h3,h4⟩:=ycV r.fired (r.m.made.drop r.next) r.next;have A:(r.m.made.drop r.next).length=a.length+b.length:=by rw[h1,znk]
    rw[List.length_drop]at A;split
    .obtain⟨k,hk⟩:=yda p r.m e
     show r.next<=((yat p r.m e).2.made).length;rw[hk,znk];omega
    .split
     .split
      .show ybi r.fired (r.m.made.drop r.next) r.next<=r.m.made.length
       rw[h2];omega
      .rename_i c B
       have:=(zge B).1;split
       .show ybi r.fired (r.m.made.drop r.next) r.next+1<=r.m.made.length
        omega
       .show ybi r.fired (r.m.made.drop r.next) r.next<=r.m.made.length
        omega
     .exact h
   .rw[yfr hw];exact h
  .rw[ybV he];exact h
structure Bk (p:Img)(fa:Fa)(b:BK)(n t:Nat):Prop where
 hi:HI p b.list (rB p b)
 over:(rB p b).closed=b.over
 evs:∀e∈b.list,yae e=0/\e.v.wf
 o:(ya8 b.list).length<=n
 cnt:b.list.length<=n+t+(ydw b.list).length
 st:St p fa (rB p b).m
 ev:(rB p b).m.events<=n
section
variable{p:Img} {fa:Fa} {b:BK} {n t:Nat}
theorem yow (S:St p fa (ms0 p)):Bk p fa ⟨[],false⟩ 0 0:=⟨yog p,rfl,(fun _ h=>by cases h),znc _,znc _,S,znc _⟩
theorem Bk.len (B:Bk p fa b n t)(hn:n<=30):b.list.length<=n+t+600000:=by
 have E:=B.cnt;have D:(ydw b.list).length<=(rB p b).m.made.length:=by
  have h:=congrArg List.length B.hi.found;rw[zmd,zmd]at h;rw[h];exact znf (List.length_filter_le _ _) (by rw[List.length_take];exact Nat.min_le_right _ _)
 have C:=B.st.bd;have A:=B.ev;omega
theorem Bk.want (B:Bk p fa b n t)(ho:b.over=false){e:Ev}(h0:yae {e with id:=(b.list.length:Int)+1}=0)(hf:b.list=[]↔e.kind=1):ycm (rB p b) {e with id:=(b.list.length:Int)+1}=0:=by
 refine ybH h0 (by rw[B.hi.seen]) (B.over.trans ho) ?_;rw[B.hi.seen,List.length_eq_zero_iff];exact hf
theorem Bk.out_ (B:Bk p fa b n t)(K:Known p fa)(P:Pk p)(hsp:fa.span<=p.code.length+1)(ho:b.over=false){e:Ev}(h0:yae e=0)(hw:e.v.wf)(hk:yaI e.kind=true)(hf:b.list=[]↔e.kind=1)(hg:e.kind=12->yfv b.list e.a=false)(hn:n+1<=30)(ht:t<=400000):Bk p fa (ycu b e) (n+1) t:=by
 have G:=B.len (by omega);have D:=ymj h0 (n:=(b.list.length:Int)+1) (by omega) (by omega);have H:=B.hi.o (B.want ho D hf) hk (fun h12 c hcm h13 ha=>by
  have:=hg h12;unfold yfv at this;rw[List.any_eq_false]at this;refine this c hcm ?_;rw[Bool.and_eq_true,beq_iff_eq,beq_iff_eq];exact⟨h13,ha⟩)
 have C:rB p (ycu b e)=_:=H.fed;obtain⟨F,E⟩:=B.st.apply K P hsp {e with id:=(b.list.length:Int)+1} hw (by have:=B.ev;omega);refine⟨by rw[C];exact H,by rw[C];show _=(b.over||yaS e.kind);rw[ho];rfl,fun x A=> ?_,?_,?_,by rw[C];exact F,by rw[C];have:=B.ev;exact znf E (by omega)⟩
 .rcases List.mem_append.1 A with A|A
  .exact B.evs x A
  .rw[List.mem_singleton.1 A];exact⟨D,hw⟩
 .show(ya8 (b.list++[_])).length<=_
  rw[yaQ,znk];have E:(ya8 [({e with id:=(b.list.length:Int)+1}:Ev)]).length<=1:=List.length_filter_le _ _;have:=B.o;omega
 .show(b.list++[_]).length<=_+(ydw (b.list++[_])).length
  rw[ybS,znk,znk,zmh];have:=B.cnt;omega
theorem Bk.task (B:Bk p fa b n t)(ho:b.over=false)(hne:b.list≠[])(hn:n<=30)(ht:t<=400000):Bk p fa (ycu b (ycU b.list)) n (t+1)/\(rB p (ycu b (ycU b.list))).m=(rB p b).m/\(rB p (ycu b (ycU b.list))).next=(rB p b).next/\(rB p (ycu b (ycU b.list))).fired=(rB p b).fired:=by
 have G:=B.len hn;have E:0<=yhh b.list/\yhh b.list<=4611686018427387903:=by
  unfold yhh;cases hq:b.list.getLast? with
  |none=>exact absurd (List.getLast?_eq_none_iff.1 hq) hne
  |some x=>
   exact(ya1 (B.evs x (List.mem_of_getLast? hq)).1).1
 have F:yae {ycU b.list with id:=(b.list.length:Int)+1}=0:=by
  have D:checkL yag=0:=ybQ;exact ybY (hA:=true) (hB:=true) (hN:=false) (hT:=false) (hV:=false) rfl ⟨by show(1:Int)<=(b.list.length:Int)+1;omega,by show(b.list.length:Int)+1<=1048576;omega⟩ E ⟨Int.le_refl _,fun h=>by cases h⟩ ⟨Int.le_refl _,fun h=>by cases h⟩ ⟨by show(⟨#[]⟩:ByteArray).size<=64;decide,fun _=>rfl⟩ ⟨by show(⟨#[]⟩:ByteArray).size<=128;decide,fun _=>rfl⟩ ⟨D,fun _=>rfl⟩
 have H:=B.hi.task (B.want ho F ⟨fun h=>absurd h hne,fun h=>absurd h (by show¬(4:Int)=1;decide)⟩) rfl rfl;have A:rB p (ycu b (ycU b.list))=_:=H.fed;refine⟨⟨by rw[A];exact H,by rw[A];show _=(b.over||yaS 4);rw[ho];rfl,fun x C=> ?_,?_,?_,by rw[A];exact B.st,by rw[A];exact B.ev⟩,by rw[A],by rw[A],by rw[A]⟩
 .rcases List.mem_append.1 C with C|C
  .exact B.evs x C
  .rw[List.mem_singleton.1 C];exact⟨F,ycS⟩
 .show(ya8 (b.list++[_])).length<=_
  rw[yaQ];exact(by rw[List.append_nil];exact B.o:(ya8 b.list++[]).length<=n)
 .show(b.list++[_]).length<=_+(ydw (b.list++[_])).length
  rw[ybS,znk,znk,zmh];have:=B.cnt;omega
theorem Bk.cmd (B:Bk p fa b n t)(ho:b.over=false)(hne:b.list≠[])(hn:n<=30)(ht:t<=400000){c:Cm}{tl:List Cm}(hnl:NL (rB p b).fired ((rB p b).m.made.drop (rB p b).next)=c::tl):
  Bk p fa (ycu b (evW c)) n t/\(rB p (ycu b (evW c))).fired=(rB p b).fired/\NL (rB p b).fired ((rB p (ycu b (evW c))).m.made.drop (rB p (ycu b (evW c))).next)=tl:=by
 have L:=B.len hn;have I:c∈(rB p b).m.made:=List.mem_of_mem_drop (List.mem_filter.1 (show c∈NL (rB p b).fired ((rB p b).m.made.drop (rB p b).next) by rw[hnl];exact zmf)).1;have E:=B.st.rk.vs.mds c I;obtain⟨J,A,F⟩:=ykJ E.1 (n:=(b.list.length:Int)+1) (by omega) (by omega);obtain⟨K,H,G⟩:=B.hi.made (B.want ho J ⟨fun h=>absurd h hne,fun h=>absurd A (by rw[h];decide)⟩) A hnl (by rw[ym7];exact yl9 c);have C:rB p (ycu b (evW c))=_:=H.fed;refine⟨⟨by rw[C];exact H,by rw[C];show _=(b.over||yaS (evW c).kind);rw[ho];rfl,fun x D=> ?_,?_,?_,by rw[C];exact B.st,by rw[C];exact B.ev⟩,by rw[C],by rw[C];exact G⟩
 .rcases List.mem_append.1 D with D|D
  .exact B.evs x D
  .rw[List.mem_singleton.1 D];exact⟨J,F E.2⟩
 .show(ya8 (b.list++[_])).length<=_
  rw[yaQ,show ya8 [({evW c with id:=(b.list.length:Int)+1}:Ev)]=[] by unfold ya8;rw[List.filter_cons,if_neg (by show¬yaI (evW c).kind=true;rw[ycx A];decide)];rfl,List.append_nil];exact B.o
 .show(b.list++[_]).length<=_+(ydw (b.list++[_])).length
  rw[ybS,znk,znk,zmh,show ydw [({evW c with id:=(b.list.length:Int)+1}:Ev)]=[({evW c with id:=(b.list.length:Int)+1}:Ev)] by unfold ydw;rw[List.filter_cons,if_pos (show yaX (evW c).kind=true from A)];rfl,zmh];have:=B.cnt;omega
theorem Bk.late (B:Bk p fa b n t)(c:Cm):((c.kind !=2)|| !yck b.list c.a)= !yaU (rB p b).fired c:=by
 have h:yck b.list c.a=decide (c.a∈(rB p b).fired):=by
  rw[Bool.eq_iff_iff,decide_eq_true_iff,B.hi.fired];unfold yck;rw[List.any_eq_true];constructor
  .rintro⟨x,A,h⟩
   rw[Bool.and_eq_true,beq_iff_eq,beq_iff_eq]at h;exact⟨x,A,h⟩
  .rintro⟨x,A,h⟩
   exact⟨x,A,by rw[Bool.and_eq_true,beq_iff_eq,beq_iff_eq];exact h⟩
 rw[h];unfold yaU;cases hk:(c.kind==2)<;>simp[bne,hk]
structure CmI (p:Img)(fa:Fa)(n t:Nat)(F:List Int)(cs rest:List Cm)(b:BK):Prop where
 bk:Bk p fa b n t
 ne:b.list≠[]
 fired:(rB p b).fired=F
 nl:NL F ((rB p b).m.made.drop (rB p b).next)=NL F cs++rest
theorem CmI.step {F:List Int}{c:Cm}{cs rest:List Cm}(C:CmI p fa n t F (c::cs) rest b)(hn:n<=30)(ht:t<=400000)(ho:b.over=false):CmI p fa n t F cs rest (bif (c.kind !=2)|| !yck b.list c.a then ycu b (evW c)else b):=by
 have h:=C.nl;rw[C.bk.late,C.fired];rw[ydr]at h;cases hl:yaU F c with
 |true=>
  rw[hl,znm]at h;exact⟨C.bk,C.ne,C.fired,h⟩
 |false=>
  rw[hl,znl,List.cons_append]at h;have A:=C.fired;subst A;obtain⟨E,D,B⟩:=C.bk.cmd ho C.ne hn ht h;exact⟨E,by show b.list++[_]≠[];simp,D,B⟩
theorem yhw (hn:n<=30)(ht:t<=400000)(most:Int){F:List Int}:∀(cs:List Cm) (i:Int) (b:BK) (rest:List Cm),Bk p fa b n t->b.list≠[]->(rB p b).fired=F->NL F ((rB p b).m.made.drop (rB p b).next)=NL F cs++rest->Bk p fa (yiu most cs i b) n t/\(yiu most cs i b).list≠[]/\ya8 (yiu most cs i b).list=ya8 b.list
 |[],_,b,_,B,hne,_,_=>⟨B,hne,rfl⟩
 |c::cs,i,b,rest,B,hne,hF,h=>by
  rw[yiu];cases hb:((i==most)||b.over)with
  |true=>exact⟨B,hne,rfl⟩
  |false=>
   rw[znl];have ho:b.over=false:=(Bool.or_eq_false_iff.1 hb).2;rw[B.late,hF];rw[ydr]at h;cases hl:yaU F c with
   |true=>
    rw[hl,znm]at h;exact yhw hn ht most cs (i+1) b rest B hne hF h
   |false=>
    rw[hl,znl,List.cons_append]at h;subst hF;obtain⟨J,I,H⟩:=B.cmd ho hne hn ht h;obtain⟨G,E,D⟩:=yhw hn ht most cs (i+1) (ycu b (evW c)) rest J (by show b.list++[_]≠[];simp) I H;refine⟨G,E,D.trans ?_⟩;show ya8 (b.list++[_])=_;have A:yaX (evW c).kind=true:=by
     have C:c∈(rB p b).m.made:=List.mem_of_mem_drop (List.mem_filter.1 (show c∈NL (rB p b).fired ((rB p b).m.made.drop (rB p b).next) by rw[h];exact zmf)).1;exact(ykJ (B.st.rk.vs.mds c C).1 (n:=1) (by decide) (by decide)).2.1
    rw[yaQ,show ya8 [({evW c with id:=(b.list.length:Int)+1}:Ev)]=[] by unfold ya8;rw[List.filter_cons,if_neg (by show¬yaI (evW c).kind=true;rw[ycx A];decide)];rfl,List.append_nil]
theorem Bk.start (B:Bk p fa b n t)(ho:b.over=false)(hne:b.list≠[])(hn:n<=30)(ht:t+1<=400000){seen:Nat}(htl:∀e∈b.list.drop seen,yaI e.kind=true):
  (yan p (rp0 p) (b.list.take seen)).err=0/\(yan p (rp0 p) (b.list.take seen)).next<=(yan p (rp0 p) (b.list.take seen)).m.made.length/\∃F rest,CmI p fa n (t+1) F (ybJ (yan p (rp0 p) (b.list.take seen))) rest (ycu b (ycU b.list)):=by
 have D:=B.hi.err;have E:b.list.take seen++b.list.drop seen=b.list:=List.take_append_drop _ _;have I:(yan p (rp0 p) (b.list.take seen)).err=0:=yht (b:=b.list.drop seen) (by rw[E];exact D);obtain⟨M,Q,P,O⟩:=B.task ho hne hn (by omega);have H:yan p (yan p (rp0 p) (b.list.take seen)) (b.list.drop seen)=rB p b:=by rw[<-yc4,E];rfl
 obtain⟨L,⟨k,K⟩,J⟩:=yh8 (b.list.drop seen) (yan p (rp0 p) (b.list.take seen)) htl I (by rw[H];exact D);rw[H]at L K J;have C:(ycu b (ycU b.list)).list≠[]:=by show b.list++[_]≠[];simp
 have G:(yan p (rp0 p) (b.list.take seen)).next<=(yan p (rp0 p) (b.list.take seen)).m.made.length:=yki p (b.list.take seen) (rp0 p) (znq _);refine⟨I,G,?_⟩;by_cases A:(yan p (rp0 p) (b.list.take seen)).closed=true
 .have:ybJ (yan p (rp0 p) (b.list.take seen))=[]:=by unfold ybJ;rw[A,Bool.or_true];rfl
  rw[this];exact⟨_,_,M,C,rfl,rfl⟩
 .have A:(yan p (rp0 p) (b.list.take seen)).closed=false:=by simpa using A
  have N:ybJ (yan p (rp0 p) (b.list.take seen))=NL (yan p (rp0 p) (b.list.take seen)).fired ((yan p (rp0 p) (b.list.take seen)).m.made.drop (yan p (rp0 p) (b.list.take seen)).next):=by
   unfold ybJ NL;rw[I,A];rfl
  refine⟨(rB p b).fired,NL (rB p b).fired k,M,C,O,?_⟩;rw[Q,P,K,L,List.drop_append_of_le_length G,ygE]
  congr 1
  rw[N];unfold NL;rw[List.filter_filter];apply List.filter_congr;intro c _;cases hl:yaU (yan p (rp0 p) (b.list.take seen)).fired c with
  |false=>simp
  |true=>
   have:yaU (rB p b).fired c=true:=by
    unfold yaU at hl|-;rw[Bool.and_eq_true,decide_eq_true_iff]at hl|-;exact⟨hl.1,J _ hl.2⟩
   rw[this];rfl
theorem Bk.commit (B:Bk p fa b n t)(ho:b.over=false)(hne:b.list≠[])(hn:n<=30)(ht:t+1<=400000){seen:Nat}(htl:∀e∈b.list.drop seen,yaI e.kind=true)(most:Int):
  (yan p (rp0 p) (b.list.take seen)).err=0/\(ybc p b seen most).1=true/\Bk p fa (ybc p b seen most).2 n (t+1)/\(ybc p b seen most).2.list≠[]:=by
 obtain⟨D,_,F,A,C⟩:=B.start ho hne hn ht htl;have H:ybc p b seen most=(true,yiu most (ybJ (yan p (rp0 p) (b.list.take seen))) 0 (ycu b (ycU b.list))):=by
  unfold ybc;rw[D];rfl
 rw[H];obtain⟨G,E,_⟩:=yhw hn ht most (ybJ (yan p (rp0 p) (b.list.take seen))) 0 (ycu b (ycU b.list)) A C.bk C.ne C.fired C.nl;exact⟨D,rfl,G,E⟩
end
end Go.Va
namespace Go.Va
open Go.Own Go.RowKit
open Cells (sz enc)
class Elt (α:outParam Type) (β:Type) [Cells α] where
 rel:(Nat->Prop)->World->α->β->Prop
 keep:∀{F S:Nat->Prop} {w w':World} {c:α} {x:β},rel F w c x->Keeps S w w'->(∀g,F g->¬S g)->rel F w' c x
 mono:∀{F G:Nat->Prop} {w:World} {c:α} {x:β},rel F w c x->(∀g,F g->g<w.heap.size->G g)->rel G w c x
instance:Elt VC Val where
 rel:=CF
 keep:=CF.keep
 mono:=CF.mono
structure TC where
 id:Int
 over:Bool
 v:VC
 how:Int
instance:Cells TC where
 sz:=7
 enc:=fun c=>[.int .i64 c.id,.bool c.over,.int .i64 c.v.kind,.int .i64 c.v.n,.string c.v.s,.slice c.v.la c.v.ln c.v.lc,.int .i64 c.how]
 len:=fun _=>rfl
 one:=by
  intro x v hv;simp at hv;rcases hv with rfl|rfl|rfl|rfl|rfl|rfl|rfl<;>rfl
structure TF (F:Nat->Prop)(w:World)(c:TC)(x:Th):Prop where
 id:c.id=x.id
 over:c.over=x.over
 v:CF F w c.v x.result
 how:c.how=x.how
instance:Elt TC Th where
 rel:=TF
 keep:=fun h K hs=>⟨h.id,h.over,h.v.keep K hs,h.how⟩
 mono:=fun h hs=>⟨h.id,h.over,h.v.mono hs,h.how⟩
structure LC where
 name:ByteArray
 v:VC
instance:Cells LC where
 sz:=5
 enc:=fun c=>[.string c.name,.int .i64 c.v.kind,.int .i64 c.v.n,.string c.v.s,.slice c.v.la c.v.ln c.v.lc]
 len:=fun _=>rfl
 one:=by
  intro x v hv;simp at hv;rcases hv with rfl|rfl|rfl|rfl|rfl<;>rfl
structure LF (F:Nat->Prop)(w:World)(c:LC)(x:Lt):Prop where
 name:c.name=x.name
 v:CF F w c.v x.v
instance:Elt LC Lt where
 rel:=LF
 keep:=fun h K hs=>⟨h.name,h.v.keep K hs⟩
 mono:=fun h hs=>⟨h.name,h.v.mono hs⟩
structure CC where
 kind:Int
 time:Int
 a:Int
 b:Int
 name:ByteArray
 v:VC
instance:Cells CC where
 sz:=9
 enc:=fun c=>[.int .i64 c.kind,.int .i64 c.time,.int .i64 c.a,.int .i64 c.b,.string c.name,.int .i64 c.v.kind,.int .i64 c.v.n,.string c.v.s,.slice c.v.la c.v.ln c.v.lc]
 len:=fun _=>rfl
 one:=by
  intro x v hv;simp at hv;rcases hv with rfl|rfl|rfl|rfl|rfl|rfl|rfl|rfl|rfl<;>rfl
structure CmF (F:Nat->Prop)(w:World)(c:CC)(x:Cm):Prop where
 kind:c.kind=x.kind
 time:c.time=x.time
 a:c.a=x.a
 b:c.b=x.b
 name:c.name=x.name
 v:CF F w c.v x.v
instance:Elt CC Cm where
 rel:=CmF
 keep:=fun h K hs=>⟨h.kind,h.time,h.a,h.b,h.name,h.v.keep K hs⟩
 mono:=fun h hs=>⟨h.kind,h.time,h.a,h.b,h.name,h.v.mono hs⟩
structure EC where
 id:Int
 time:Int
 kind:Int
 a:Int
 b:Int
 name:ByteArray
 text:ByteArray
 v:VC
instance:Cells EC where
 sz:=11
 enc:=fun c=>[.int .i64 c.id,.int .i64 c.time,.int .i64 c.kind,.int .i64 c.a,.int .i64 c.b,.string c.name,.string c.text,.int .i64 c.v.kind,.int .i64 c.v.n,.string c.v.s,.slice c.v.la c.v.ln c.v.lc]
 len:=fun _=>rfl
 one:=by
  intro x v hv;simp at hv;rcases hv with rfl|rfl|rfl|rfl|rfl|rfl|rfl|rfl|rfl|rfl|rfl<;>rfl
structure EvF (F:Nat->Prop)(w:World)(c:EC)(x:Ev):Prop where
 id:c.id=x.id
 time:c.time=x.time
 kind:c.kind=x.kind
 a:c.a=x.a
 b:c.b=x.b
 name:c.name=x.name
 text:c.text=x.text
 v:CF F w c.v x.v
instance:Elt EC Ev where
 rel:=EvF
 keep:=fun h K hs=>⟨h.id,h.time,h.kind,h.a,h.b,h.name,h.text,h.v.keep K hs⟩
 mono:=fun h hs=>⟨h.id,h.time,h.kind,h.a,h.b,h.name,h.text,h.v.mono hs⟩
def XRow {α β:Type}[Cells α][Elt α β](F:Nat->Prop)(w:World)(e:TypeId)(v:Value)(l:List β):Prop:=
 ∃cs:List α,RowAt w e v cs/\cs.length=l.length/\∀(i:Nat) (c:α) (x:β),cs[i]? =some c->l[i]? =some x->Elt.rel F w c x
def XRd {α β:Type}[Cells α][Elt α β](F:Nat->Prop)(w:World)(v:Value)(l:List β):Prop:=
 ∃cs:List α,RdF F w v cs/\cs.length=l.length/\∀(i:Nat) (c:α) (x:β),cs[i]? =some c->l[i]? =some x->Elt.rel F w c x
section
variable{α β:Type} [Cells α] [Elt α β] {F G S:Nat->Prop} {w w':World} {e:TypeId} {v:Value} {l:List β}
theorem XRow.slice (h:XRow F w e v l):∃a cap,v= .slice a l.length cap:=by
 obtain⟨D,B,A,C⟩:=h;obtain⟨a,cap,h⟩:=B.slice;exact⟨a,cap,by rw[<-A];exact h⟩
theorem XRow.nil (F:Nat->Prop)(w:World)(e:TypeId):XRow (β:=β) F w e (.slice none 0 0) []:=⟨[],RowAt.nil _ _,rfl,fun i c x h=>by simp at h⟩
theorem XRow.keep (h:XRow F w e v l)(K:Keeps S w w')(hs:∀g,F g->¬S g)(hv:∀g,v.ownBlock=some g->¬S g):XRow F w' e v l:=by
 obtain⟨D,C,B,A⟩:=h;exact⟨D,C.keep K hv,B,fun i c x hc hx=>Elt.keep (A i c x hc hx) K hs⟩
theorem XRow.mono (h:XRow F w e v l)(hs:∀g,F g->g<w.heap.size->G g):XRow G w e v l:=by
 obtain⟨D,C,B,A⟩:=h;exact⟨D,C,B,fun i c x hc hx=>Elt.mono (A i c x hc hx) hs⟩
theorem XRow.below (h:XRow F w e v l)(B:Below w w w'):XRow F w' e v l:=h.keep (S:=fun _=>False) (zkb B) (fun _ _ f=>f) (fun _ _ f=>f)
theorem XRow.lt (h:XRow F w e v l){g:Nat}(hg:v.ownBlock=some g):g<w:=by
 obtain⟨B,A,_⟩:=h;exact A.lt hg
theorem XRow.rd (h:XRow F w e v l)(hF:∀g,F g->g<w.heap.size->G g)(hG:∀g,v.ownBlock=some g->G g):XRd G w v l:=by
 obtain⟨D,C,B,A⟩:=h;exact⟨D,RdF.of_row C hG,B,fun i c x hc hx=>Elt.mono (A i c x hc hx) hF⟩
theorem XRow.at_ {a:Option Addr}{n cap:Nat}(h:XRow F w e (.slice a n cap) l){i:Nat}{x:β}(hx:l[i]? =some x):∃g off c,a=some ⟨g,off,none⟩/\g<w.heap.size/\Elt.rel F w c x/\(∀o,w.frozen? ⟨g,o,none⟩=false)/\∀j u,(enc c)[j]? =some u->w.cell? ⟨g,off+i*sz α+j,none⟩=some u:=by
 obtain⟨H,B,G,E⟩:=h;obtain⟨c,A⟩:=yac (l:=H) (k:=i) (by rw[G];exact(zge hx).1);obtain⟨g,off,rfl,D⟩:=B.addr A;refine⟨g,off,c,rfl,D,E i c x A hx,fun o=>B.frozen o,fun j u hu=> ?_⟩;have C:j<sz α:=by have:=(zge hu).1;rwa[Cells.len]at this
 have q:=B.cell A (j:=j) C;rw[show off+(i*sz α+j)=off+i*sz α+j by omega]at q;rw[q,<-hu]
theorem XRd.slice (h:XRd F w v l):∃a cap,v= .slice a l.length cap:=by
 obtain⟨D,B,A,C⟩:=h;obtain⟨a,cap,h⟩:=B.slice;exact⟨a,cap,by rw[<-A];exact h⟩
theorem XRd.keep (h:XRd F w v l)(K:Keeps S w w')(hs:∀g,F g->¬S g):XRd F w' v l:=by
 obtain⟨D,C,B,A⟩:=h;exact⟨D,C.keep K hs,B,fun i c x hc hx=>Elt.keep (A i c x hc hx) K hs⟩
theorem XRd.mono (h:XRd F w v l)(hs:∀g,F g->g<w.heap.size->G g):XRd G w v l:=by
 obtain⟨D,C,B,A⟩:=h;exact⟨D,C.mono hs,B,fun i c x hc hx=>Elt.mono (A i c x hc hx) hs⟩
theorem XRd.below (h:XRd F w v l)(B:Below w w w'):XRd F w' v l:=h.keep (S:=fun _=>False) (zkb B) (fun _ _ f=>f)
theorem XRd.at_ {a:Option Addr}{n cap:Nat}(h:XRd F w (.slice a n cap) l){i:Nat}{x:β}(hx:l[i]? =some x):∃g off c,a=some ⟨g,off,none⟩/\F g/\g<w.heap.size/\Elt.rel F w c x/\∀j u,(enc c)[j]? =some u->w.cell? ⟨g,off+i*sz α+j,none⟩=some u:=by
 obtain⟨I,H,G,E⟩:=h;obtain⟨c,A⟩:=yac (l:=I) (k:=i) (by rw[G];exact(zge hx).1);obtain⟨g,off,C,D,B,q⟩:=H.at_ A;exact⟨g,off,c,C,D,B,E i c x A hx,fun j u hu=>by rw[zmm];exact q j u hu⟩
end
structure MV where
 ss:Value
 ic:IC
 ps:Value
 inp:VC
 ts:Value
 as_:Value
 ls:Value
 ms:Value
def own (v:MV)(b:Nat):Nat->Option Nat
 |0=>some b
 |1=>v.ss.ownBlock
 |2=>v.ps.ownBlock
 |3=>v.ts.ownBlock
 |4=>v.as_.ownBlock
 |5=>v.ls.ownBlock
 |6=>v.ms.ownBlock
 |_=>none
def MO (v:MV)(b g:Nat):Prop:=∃i,own v b i=some g
def MZ (Z:Nat->Prop)(v:MV)(b g:Nat):Prop:=¬MO v b g/\Z g
def ybT (v:MV)(s:MS):List Value:=
 [v.ss,.slice v.ic.ca v.ic.cn v.ic.cc,.slice v.ic.ka v.ic.kn v.ic.kc,.slice v.ic.na v.ic.nn v.ic.nc,.int .i64 v.ic.pl,v.ps,.int .i64 (s.at_:Int),.int .i64 v.inp.kind,.int .i64 v.inp.n,.string v.inp.s,.slice v.inp.la v.inp.ln v.inp.lc,.int .i64 s.now,
  v.ts,.int .i64 s.timers.next,v.as_,.int .i64 s.acts.next,v.ls,.bool s.asked,.bool s.begun,.bool s.over,.string s.trap,v.ms,.int .i64 (s.taken:Int),.int .i64 (s.events:Int),.int .i64 (s.steps:Int)]
structure MT where
 m:TypeId
 v:TypeId
 t:TypeId
 l:TypeId
 c:TypeId
structure MX (T:MT)(Z:Nat->Prop)(W:World)(b:Nat)(v:MV)(p:Img)(s:MS):Prop where
 h:W.heap[b]? =some (.cells (ybT v s).toArray T.m (0,0))
 stk:XRow (MZ Z v b) W T.v v.ss s.stk
 pls:XRow (MZ Z v b) W T.v v.ps s.places
 tms:XRow (MZ Z v b) W T.t v.ts s.timers.list
 acs:XRow (MZ Z v b) W T.t v.as_ s.acts.list
 lts:XRow (MZ Z v b) W T.l v.ls s.letters
 mds:XRow (MZ Z v b) W T.c v.ms s.made
 img:IAt (MZ Z v b) W v.ic p
 inp:CF (MZ Z v b) W v.inp s.input
 sep:∀i j g,own v b i=some g->own v b j=some g->i=j
structure MK (b:Nat)(v:MV)(W:World)(v':MV)(W':World):Prop where
 keeps:Keeps (MO v b) W W'
 own:∀j,MO v' b j->MO v b j\/W.heap.size<=j
theorem MK.refl (b:Nat)(v:MV)(W:World):MK b v W v W:=⟨Keeps.refl _ _,fun _ h=>.inl h⟩
theorem MK.trans {b:Nat}{v v' v'':MV}{W W' W'':World}(h:MK b v W v' W')(k:MK b v' W' v'' W''):MK b v W v'' W'':=by
 refine⟨h.keeps.trans k.keeps (fun j hj e=>(h.own j e).resolve_right (by omega)),fun j hj=> ?_⟩;rcases k.own j hj with A|A
 .exact h.own j A
 .exact .inr (znf h.keeps.size A)
theorem MK.ext {b:Nat}{v:MV}{W W':World}(K:Below W W W'):MK b v W v W':=⟨(zkb (S:=fun _=>False) K).mono (fun _ _ f=>f.elim),fun _ h=>.inl h⟩
section
variable{T:MT} {Z:Nat->Prop} {W W':World} {b:Nat} {v:MV} {p:Img} {s:MS}
theorem MX.lt (M:MX T Z W b v p s){g:Nat}(h:MO v b g):g<W:=by
 obtain⟨i,A⟩:=h
 match i,A with
 |0,A=>cases A;exact zlt M.h
 |1,A=>exact M.stk.lt A
 |2,A=>exact M.pls.lt A
 |3,A=>exact M.tms.lt A
 |4,A=>exact M.acs.lt A
 |5,A=>exact M.lts.lt A
 |6,A=>exact M.mds.lt A
 |n+7,A=>cases A
theorem MX.far {S:Nat->Prop}(M:MX T Z W b v p s)(K:Keeps S W W')(h1:∀j,S j->¬MO v b j)(h2:∀j,S j->¬Z j):MX T Z W' b v p s:=
 have A:∀g,MZ Z v b g->¬S g:=fun g h s=>h2 g s h.2
 ⟨(K.block b (zlt M.h) (fun s=>h1 b s ⟨0,rfl⟩)).trans M.h,M.stk.keep K A (fun g hg s=>h1 g s ⟨1,hg⟩),M.pls.keep K A (fun g hg s=>h1 g s ⟨2,hg⟩),M.tms.keep K A (fun g hg s=>h1 g s ⟨3,hg⟩),M.acs.keep K A (fun g hg s=>h1 g s ⟨4,hg⟩),M.lts.keep K A (fun g hg s=>h1 g s ⟨5,hg⟩),M.mds.keep K A (fun g hg s=>h1 g s ⟨6,hg⟩),M.img.keep K A,M.inp.keep K A,M.sep⟩
theorem MX.ext (M:MX T Z W b v p s)(B:Below W W W'):MX T Z W' b v p s:=by
 have K:=zkb (S:=fun _=>False) B;exact M.far K (fun _ f=>f.elim) (fun _ f=>f.elim)
theorem MX.monoZ {Z':Nat->Prop}(M:MX T Z W b v p s)(h:∀j,Z j->j<W.heap.size->Z' j):MX T Z' W b v p s:=
 have A:∀g,MZ Z v b g->g<W.heap.size->MZ Z' v b g:=fun g hg hl=>⟨hg.1,h g hg.2 hl⟩
 ⟨M.h,M.stk.mono A,M.pls.mono A,M.tms.mono A,M.acs.mono A,M.lts.mono A,M.mds.mono A,M.img.mono A,M.inp.mono A,M.sep⟩
theorem MX.cell (M:MX T Z W b v p s){k:Nat}{u:Value}(h:(ybT v s)[k]? =some u):W.cell? ⟨b,k,none⟩=some u:=by
 rw[zch M.h,zmc];exact h
theorem MX.frozen (M:MX T Z W b v p s)(o:Nat):W.frozen? ⟨b,o,none⟩=false:=zfr M.h o
theorem MX.scalar (M:MX T Z W b v p s)(k:Nat)(u:Value)(s':MS)(henc:ybT v s'=(ybT v s).set k u)(e1:s'.stk=s.stk)(e2:s'.places=s.places)(e3:s'.timers.list=s.timers.list)(e4:s'.acts.list=s.acts.list)(e5:s'.letters=s.letters)(e6:s'.made=s.made)(e7:s'.input=s.input):
  MX T Z (W.setCell ⟨b,k,none⟩ u) b v p s'/\MK b v W v (W.setCell ⟨b,k,none⟩ u):=by
 have K:Keeps (fun j=>j=b) W (W.setCell ⟨b,k,none⟩ u):=Keeps.setCell (S:=fun j=>j=b) (p:=⟨b,k,none⟩) (Keeps.refl _ _) (.inl rfl) _;have A:∀g,MZ Z v b g->¬g=b:=fun g h e=>h.1 ⟨0,by rw[e];rfl⟩;have B:∀i g,own v b (i+1)=some g->¬g=b:=fun i g h e=>by
  have:=M.sep (i+1) 0 g h (by rw[e];rfl);omega
 refine⟨⟨?_,by rw[e1];exact M.stk.keep K A (fun g hg=>B 0 g hg),by rw[e2];exact M.pls.keep K A (fun g hg=>B 1 g hg),by rw[e3];exact M.tms.keep K A (fun g hg=>B 2 g hg),by rw[e4];exact M.acs.keep K A (fun g hg=>B 3 g hg),by rw[e5];exact M.lts.keep K A (fun g hg=>B 4 g hg),by rw[e6];exact M.mds.keep K A (fun g hg=>B 5 g hg),M.img.keep K A,by rw[e7];exact M.inp.keep K A,M.sep⟩,⟨K.mono (fun j _ e=>⟨0,by rw[e];rfl⟩),fun j h=>.inl h⟩⟩;rw[henc];have:=M.h;simp[World.setCell,zni,this]
theorem MO.turned {v':MV}{i0:Nat}(hsame:∀i,i≠i0->own v' b i=own v b i){g:Nat}(h:MO v' b g):MO v b g\/own v' b i0=some g:=by
 obtain⟨i,A⟩:=h;by_cases e:i=i0
 .exact .inr (e▸A)
 .exact .inl ⟨i,by rw[<-hsame i e];exact A⟩
theorem MZ.turned {v':MV}{i0:Nat}(hsame:∀i,i≠i0->own v' b i=own v b i)(hf:∀g,own v' b i0=some g->own v b i0=some g\/W.heap.size<=g){g:Nat}(h:MZ Z v b g)(hl:g<W.heap.size):MZ Z v' b g:=by
 refine⟨fun e=> ?_,h.2⟩;rcases MO.turned hsame e with e|e
 .exact h.1 e
 .rcases hf g e with e|e
  .exact h.1 ⟨i0,e⟩
  .omega
theorem XRow.turned {α β:Type}[Cells α][Elt α β]{v':MV}{i0 j0:Nat}{e:TypeId}{r:Value}{l:List β}(hrow:XRow (MZ Z v b) W e r l)(hr:r.ownBlock=own v b j0)(hj:j0≠i0)(h0:j0≠0)(sep:∀i j g,own v b i=some g->own v b j=some g->i=j)
  (hsame:∀i,i≠i0->own v' b i=own v b i)(hf:∀g,own v' b i0=some g->own v b i0=some g\/W.heap.size<=g)(K:Keeps (fun j=>j=b\/own v b i0=some j) W W'):XRow (MZ Z v' b) W' e r l:=
 ((hrow.mono (G:=fun g=>MZ Z v b g/\MZ Z v' b g) (fun g h hl=>⟨h,MZ.turned hsame hf h hl⟩)).keep K (fun g h e=>e.elim (fun e=>h.1.1 ⟨0,by rw[e];rfl⟩) (fun e=>h.1.1 ⟨i0,e⟩)) (fun g hg e=>e.elim (fun e=>h0 (sep j0 0 g (hr▸hg) (by rw[e];rfl))) (fun e=>hj (sep j0 i0 g (hr▸hg) e)))).mono (fun g h _=>h.2)
theorem ybD {v':MV}{i0:Nat}(hlt:∀g,MO v b g->g<W.heap.size)(sep:∀i j g,own v b i=some g->own v b j=some g->i=j)(hsame:∀i,i≠i0->own v' b i=own v b i)(hf:∀g,own v' b i0=some g->own v b i0=some g\/W.heap.size<=g):∀i j g,own v' b i=some g->own v' b j=some g->i=j:=by
 have one:∀i g,i≠i0->own v' b i=some g->own v' b i0=some g->False:=fun i g A h1 h2=>by
  rw[hsame i A]at h1;rcases hf g h2 with h|h
  .exact A (sep i i0 g h1 h)
  .have:=hlt g ⟨i,h1⟩;omega
 intro i j g A B;by_cases ei:i=i0
 .by_cases ej:j=i0
  .rw[ei,ej]
  .rw[ei]at A;exact(one j g ej B A).elim
 .by_cases ej:j=i0
  .rw[ej]at B;exact(one i g ei A B).elim
  .rw[hsame i ei]at A;rw[hsame j ej]at B;exact sep i j g A B
theorem MX.setStk (M:MX T Z W b v p s){w1:World}{v1:Value}{l1:List Val}(s':MS)(hr:XRow (fun g=>MZ Z v b g/\¬v1.ownBlock=some g) w1 T.v v1 l1)(K:Keeps (fun j=>v.ss.ownBlock=some j) W w1)(hf:∀g,v1.ownBlock=some g->v.ss.ownBlock=some g\/W.heap.size<=g)(hs':s'={s with stk:=l1}):
  MX T Z (w1.setCell ⟨b,0,none⟩ v1) b {v with ss:=v1} p s'/\MK b v W {v with ss:=v1} (w1.setCell ⟨b,0,none⟩ v1):=by
 subst hs';have E:v.ss.ownBlock≠some b:=fun e=>absurd (M.sep 1 0 b e rfl) (by decide);have J:w1.heap[b]? =some (.cells (ybT v s).toArray T.m (0,0)):=(K.block b (zlt M.h) E).trans M.h;have H:Keeps (fun j=>j=b) w1 (w1.setCell ⟨b,0,none⟩ v1):=Keeps.setCell (S:=fun j=>j=b) (p:=⟨b,0,none⟩) (Keeps.refl _ _) (.inl rfl) _;have D:Keeps (fun j=>j=b\/own v b 1=some j) W (w1.setCell ⟨b,0,none⟩ v1):=(K.mono (fun _ _ e=>.inr e)).trans H (fun _ _ e=>.inl e);have A:∀i,i≠1->own {v with ss:=v1} b i=own v b i:=fun i hi=>by
  match i with
  |0=>first|rfl|exact absurd rfl hi
  |1=>first|rfl|exact absurd rfl hi
  |2=>first|rfl|exact absurd rfl hi
  |3=>first|rfl|exact absurd rfl hi
  |4=>first|rfl|exact absurd rfl hi
  |5=>first|rfl|exact absurd rfl hi
  |6=>first|rfl|exact absurd rfl hi
  |_+7=>rfl
 have C:∀g,own {v with ss:=v1} b 1=some g->own v b 1=some g\/W.heap.size<=g:=hf;have I:∀g,v1.ownBlock=some g->g≠b:=fun g hg e=>by
  rcases hf g hg with h|h
  .exact E (e▸h)
  .have:=zlt M.h;omega
 have F:∀g,MO v b g->g<W.heap.size:=fun g=>M.lt;have B:XRow (MZ Z {v with ss:=v1} b) (w1.setCell ⟨b,0,none⟩ v1) T.v v1 l1:=by
  refine(hr.keep H (fun g h e=>h.1.1 ⟨0,by rw[e];rfl⟩) (fun g hg=>I g hg)).mono (fun g h _=>⟨fun e=> ?_,h.1.2⟩);exact(MO.turned A e).elim h.1.1 h.2
 refine⟨⟨by simp[World.setCell,zni,J];rfl,?_,?_,?_,?_,?_,?_,?_,?_,ybD F M.sep A C⟩,D.mono (fun j _ e=>e.elim (fun e=>⟨0,by rw[e];rfl⟩) (fun e=>⟨1,e⟩)),fun j h=>(MO.turned A h).elim .inl (fun e=>(hf j e).elim (fun e=>.inl ⟨1,e⟩) .inr)⟩
 .first|exact B|exact M.stk.turned (j0:=1) rfl (by decide) (by decide) M.sep A C D
 .first|exact B|exact M.pls.turned (j0:=2) rfl (by decide) (by decide) M.sep A C D
 .first|exact B|exact M.tms.turned (j0:=3) rfl (by decide) (by decide) M.sep A C D
 .first|exact B|exact M.acs.turned (j0:=4) rfl (by decide) (by decide) M.sep A C D
 .first|exact B|exact M.lts.turned (j0:=5) rfl (by decide) (by decide) M.sep A C D
 .first|exact B|exact M.mds.turned (j0:=6) rfl (by decide) (by decide) M.sep A C D
 .exact((M.img.mono (G:=fun g=>MZ Z v b g/\MZ Z {v with ss:=v1} b g) (fun g h hl=>⟨h,MZ.turned A C h hl⟩)).keep D (fun g h e=>e.elim (fun e=>h.1.1 ⟨0,by rw[e];rfl⟩) (fun e=>h.1.1 ⟨1,e⟩))).mono (fun g h _=>h.2)
 .exact((M.inp.mono (G:=fun g=>MZ Z v b g/\MZ Z {v with ss:=v1} b g) (fun g h hl=>⟨h,MZ.turned A C h hl⟩)).keep D (fun g h e=>e.elim (fun e=>h.1.1 ⟨0,by rw[e];rfl⟩) (fun e=>h.1.1 ⟨1,e⟩))).mono (fun g h _=>h.2)
theorem MX.setPls (M:MX T Z W b v p s){w1:World}{v1:Value}{l1:List Val}(s':MS)(hr:XRow (fun g=>MZ Z v b g/\¬v1.ownBlock=some g) w1 T.v v1 l1)(K:Keeps (fun j=>v.ps.ownBlock=some j) W w1)(hf:∀g,v1.ownBlock=some g->v.ps.ownBlock=some g\/W.heap.size<=g)(hs':s'={s with places:=l1}):
  MX T Z (w1.setCell ⟨b,5,none⟩ v1) b {v with ps:=v1} p s'/\MK b v W {v with ps:=v1} (w1.setCell ⟨b,5,none⟩ v1):=by
 subst hs';have E:v.ps.ownBlock≠some b:=fun e=>absurd (M.sep 2 0 b e rfl) (by decide);have J:w1.heap[b]? =some (.cells (ybT v s).toArray T.m (0,0)):=(K.block b (zlt M.h) E).trans M.h;have H:Keeps (fun j=>j=b) w1 (w1.setCell ⟨b,5,none⟩ v1):=Keeps.setCell (S:=fun j=>j=b) (p:=⟨b,5,none⟩) (Keeps.refl _ _) (.inl rfl) _;have D:Keeps (fun j=>j=b\/own v b 2=some j) W (w1.setCell ⟨b,5,none⟩ v1):=(K.mono (fun _ _ e=>.inr e)).trans H (fun _ _ e=>.inl e);have A:∀i,i≠2->own {v with ps:=v1} b i=own v b i:=fun i hi=>by
  match i with
  |0=>first|rfl|exact absurd rfl hi
  |1=>first|rfl|exact absurd rfl hi
  |2=>first|rfl|exact absurd rfl hi
  |3=>first|rfl|exact absurd rfl hi
  |4=>first|rfl|exact absurd rfl hi
  |5=>first|rfl|exact absurd rfl hi
  |6=>first|rfl|exact absurd rfl hi
  |_+7=>rfl
 have C:∀g,own {v with ps:=v1} b 2=some g->own v b 2=some g\/W.heap.size<=g:=hf;have I:∀g,v1.ownBlock=some g->g≠b:=fun g hg e=>by
  rcases hf g hg with h|h
  .exact E (e▸h)
  .have:=zlt M.h;omega
 have F:∀g,MO v b g->g<W.heap.size:=fun g=>M.lt;have B:XRow (MZ Z {v with ps:=v1} b) (w1.setCell ⟨b,5,none⟩ v1) T.v v1 l1:=by
  refine(hr.keep H (fun g h e=>h.1.1 ⟨0,by rw[e];rfl⟩) (fun g hg=>I g hg)).mono (fun g h _=>⟨fun e=> ?_,h.1.2⟩);exact(MO.turned A e).elim h.1.1 h.2
 refine⟨⟨by simp[World.setCell,zni,J];rfl,?_,?_,?_,?_,?_,?_,?_,?_,ybD F M.sep A C⟩,D.mono (fun j _ e=>e.elim (fun e=>⟨0,by rw[e];rfl⟩) (fun e=>⟨2,e⟩)),fun j h=>(MO.turned A h).elim .inl (fun e=>(hf j e).elim (fun e=>.inl ⟨2,e⟩) .inr)⟩
 .first|exact B|exact M.stk.turned (j0:=1) rfl (by decide) (by decide) M.sep A C D
 .first|exact B|exact M.pls.turned (j0:=2) rfl (by decide) (by decide) M.sep A C D
 .first|exact B|exact M.tms.turned (j0:=3) rfl (by decide) (by decide) M.sep A C D
 .first|exact B|exact M.acs.turned (j0:=4) rfl (by decide) (by decide) M.sep A C D
 .first|exact B|exact M.lts.turned (j0:=5) rfl (by decide) (by decide) M.sep A C D
 .first|exact B|exact M.mds.turned (j0:=6) rfl (by decide) (by decide) M.sep A C D
 .exact((M.img.mono (G:=fun g=>MZ Z v b g/\MZ Z {v with ps:=v1} b g) (fun g h hl=>⟨h,MZ.turned A C h hl⟩)).keep D (fun g h e=>e.elim (fun e=>h.1.1 ⟨0,by rw[e];rfl⟩) (fun e=>h.1.1 ⟨2,e⟩))).mono (fun g h _=>h.2)
 .exact((M.inp.mono (G:=fun g=>MZ Z v b g/\MZ Z {v with ps:=v1} b g) (fun g h hl=>⟨h,MZ.turned A C h hl⟩)).keep D (fun g h e=>e.elim (fun e=>h.1.1 ⟨0,by rw[e];rfl⟩) (fun e=>h.1.1 ⟨2,e⟩))).mono (fun g h _=>h.2)
theorem MX.setTms (M:MX T Z W b v p s){w1:World}{v1:Value}{l1:List Th}(s':MS)(hr:XRow (fun g=>MZ Z v b g/\¬v1.ownBlock=some g) w1 T.t v1 l1)(K:Keeps (fun j=>v.ts.ownBlock=some j) W w1)(hf:∀g,v1.ownBlock=some g->v.ts.ownBlock=some g\/W.heap.size<=g)(hs':s'={s with timers:=⟨l1,s.timers.next⟩}):
  MX T Z (w1.setCell ⟨b,12,none⟩ v1) b {v with ts:=v1} p s'/\MK b v W {v with ts:=v1} (w1.setCell ⟨b,12,none⟩ v1):=by
 subst hs';have E:v.ts.ownBlock≠some b:=fun e=>absurd (M.sep 3 0 b e rfl) (by decide);have J:w1.heap[b]? =some (.cells (ybT v s).toArray T.m (0,0)):=(K.block b (zlt M.h) E).trans M.h;have H:Keeps (fun j=>j=b) w1 (w1.setCell ⟨b,12,none⟩ v1):=Keeps.setCell (S:=fun j=>j=b) (p:=⟨b,12,none⟩) (Keeps.refl _ _) (.inl rfl) _;have D:Keeps (fun j=>j=b\/own v b 3=some j) W (w1.setCell ⟨b,12,none⟩ v1):=(K.mono (fun _ _ e=>.inr e)).trans H (fun _ _ e=>.inl e);have A:∀i,i≠3->own {v with ts:=v1} b i=own v b i:=fun i hi=>by
  match i with
  |0=>first|rfl|exact absurd rfl hi
  |1=>first|rfl|exact absurd rfl hi
  |2=>first|rfl|exact absurd rfl hi
  |3=>first|rfl|exact absurd rfl hi
  |4=>first|rfl|exact absurd rfl hi
  |5=>first|rfl|exact absurd rfl hi
  |6=>first|rfl|exact absurd rfl hi
  |_+7=>rfl
 have C:∀g,own {v with ts:=v1} b 3=some g->own v b 3=some g\/W.heap.size<=g:=hf;have I:∀g,v1.ownBlock=some g->g≠b:=fun g hg e=>by
  rcases hf g hg with h|h
  .exact E (e▸h)
  .have:=zlt M.h;omega
 have F:∀g,MO v b g->g<W.heap.size:=fun g=>M.lt;have B:XRow (MZ Z {v with ts:=v1} b) (w1.setCell ⟨b,12,none⟩ v1) T.t v1 l1:=by
  refine(hr.keep H (fun g h e=>h.1.1 ⟨0,by rw[e];rfl⟩) (fun g hg=>I g hg)).mono (fun g h _=>⟨fun e=> ?_,h.1.2⟩);exact(MO.turned A e).elim h.1.1 h.2
 refine⟨⟨by simp[World.setCell,zni,J];rfl,?_,?_,?_,?_,?_,?_,?_,?_,ybD F M.sep A C⟩,D.mono (fun j _ e=>e.elim (fun e=>⟨0,by rw[e];rfl⟩) (fun e=>⟨3,e⟩)),fun j h=>(MO.turned A h).elim .inl (fun e=>(hf j e).elim (fun e=>.inl ⟨3,e⟩) .inr)⟩
 .first|exact B|exact M.stk.turned (j0:=1) rfl (by decide) (by decide) M.sep A C D
 .first|exact B|exact M.pls.turned (j0:=2) rfl (by decide) (by decide) M.sep A C D
 .first|exact B|exact M.tms.turned (j0:=3) rfl (by decide) (by decide) M.sep A C D
 .first|exact B|exact M.acs.turned (j0:=4) rfl (by decide) (by decide) M.sep A C D
 .first|exact B|exact M.lts.turned (j0:=5) rfl (by decide) (by decide) M.sep A C D
 .first|exact B|exact M.mds.turned (j0:=6) rfl (by decide) (by decide) M.sep A C D
 .exact((M.img.mono (G:=fun g=>MZ Z v b g/\MZ Z {v with ts:=v1} b g) (fun g h hl=>⟨h,MZ.turned A C h hl⟩)).keep D (fun g h e=>e.elim (fun e=>h.1.1 ⟨0,by rw[e];rfl⟩) (fun e=>h.1.1 ⟨3,e⟩))).mono (fun g h _=>h.2)
 .exact((M.inp.mono (G:=fun g=>MZ Z v b g/\MZ Z {v with ts:=v1} b g) (fun g h hl=>⟨h,MZ.turned A C h hl⟩)).keep D (fun g h e=>e.elim (fun e=>h.1.1 ⟨0,by rw[e];rfl⟩) (fun e=>h.1.1 ⟨3,e⟩))).mono (fun g h _=>h.2)
theorem MX.setAcs (M:MX T Z W b v p s){w1:World}{v1:Value}{l1:List Th}(s':MS)(hr:XRow (fun g=>MZ Z v b g/\¬v1.ownBlock=some g) w1 T.t v1 l1)(K:Keeps (fun j=>v.as_.ownBlock=some j) W w1)(hf:∀g,v1.ownBlock=some g->v.as_.ownBlock=some g\/W.heap.size<=g)(hs':s'={s with acts:=⟨l1,s.acts.next⟩}):
  MX T Z (w1.setCell ⟨b,14,none⟩ v1) b {v with as_:=v1} p s'/\MK b v W {v with as_:=v1} (w1.setCell ⟨b,14,none⟩ v1):=by
 subst hs';have E:v.as_.ownBlock≠some b:=fun e=>absurd (M.sep 4 0 b e rfl) (by decide);have J:w1.heap[b]? =some (.cells (ybT v s).toArray T.m (0,0)):=(K.block b (zlt M.h) E).trans M.h;have H:Keeps (fun j=>j=b) w1 (w1.setCell ⟨b,14,none⟩ v1):=Keeps.setCell (S:=fun j=>j=b) (p:=⟨b,14,none⟩) (Keeps.refl _ _) (.inl rfl) _;have D:Keeps (fun j=>j=b\/own v b 4=some j) W (w1.setCell ⟨b,14,none⟩ v1):=(K.mono (fun _ _ e=>.inr e)).trans H (fun _ _ e=>.inl e);have A:∀i,i≠4->own {v with as_:=v1} b i=own v b i:=fun i hi=>by
  match i with
  |0=>first|rfl|exact absurd rfl hi
  |1=>first|rfl|exact absurd rfl hi
  |2=>first|rfl|exact absurd rfl hi
  |3=>first|rfl|exact absurd rfl hi
  |4=>first|rfl|exact absurd rfl hi
  |5=>first|rfl|exact absurd rfl hi
  |6=>first|rfl|exact absurd rfl hi
  |_+7=>rfl
 have C:∀g,own {v with as_:=v1} b 4=some g->own v b 4=some g\/W.heap.size<=g:=hf;have I:∀g,v1.ownBlock=some g->g≠b:=fun g hg e=>by
  rcases hf g hg with h|h
  .exact E (e▸h)
  .have:=zlt M.h;omega
 have F:∀g,MO v b g->g<W.heap.size:=fun g=>M.lt;have B:XRow (MZ Z {v with as_:=v1} b) (w1.setCell ⟨b,14,none⟩ v1) T.t v1 l1:=by
  refine(hr.keep H (fun g h e=>h.1.1 ⟨0,by rw[e];rfl⟩) (fun g hg=>I g hg)).mono (fun g h _=>⟨fun e=> ?_,h.1.2⟩);exact(MO.turned A e).elim h.1.1 h.2
 refine⟨⟨by simp[World.setCell,zni,J];rfl,?_,?_,?_,?_,?_,?_,?_,?_,ybD F M.sep A C⟩,D.mono (fun j _ e=>e.elim (fun e=>⟨0,by rw[e];rfl⟩) (fun e=>⟨4,e⟩)),fun j h=>(MO.turned A h).elim .inl (fun e=>(hf j e).elim (fun e=>.inl ⟨4,e⟩) .inr)⟩
 .first|exact B|exact M.stk.turned (j0:=1) rfl (by decide) (by decide) M.sep A C D
 .first|exact B|exact M.pls.turned (j0:=2) rfl (by decide) (by decide) M.sep A C D
 .first|exact B|exact M.tms.turned (j0:=3) rfl (by decide) (by decide) M.sep A C D
 .first|exact B|exact M.acs.turned (j0:=4) rfl (by decide) (by decide) M.sep A C D
 .first|exact B|exact M.lts.turned (j0:=5) rfl (by decide) (by decide) M.sep A C D
 .first|exact B|exact M.mds.turned (j0:=6) rfl (by decide) (by decide) M.sep A C D
 .exact((M.img.mono (G:=fun g=>MZ Z v b g/\MZ Z {v with as_:=v1} b g) (fun g h hl=>⟨h,MZ.turned A C h hl⟩)).keep D (fun g h e=>e.elim (fun e=>h.1.1 ⟨0,by rw[e];rfl⟩) (fun e=>h.1.1 ⟨4,e⟩))).mono (fun g h _=>h.2)
 .exact((M.inp.mono (G:=fun g=>MZ Z v b g/\MZ Z {v with as_:=v1} b g) (fun g h hl=>⟨h,MZ.turned A C h hl⟩)).keep D (fun g h e=>e.elim (fun e=>h.1.1 ⟨0,by rw[e];rfl⟩) (fun e=>h.1.1 ⟨4,e⟩))).mono (fun g h _=>h.2)
theorem MX.setLts (M:MX T Z W b v p s){w1:World}{v1:Value}{l1:List Lt}(s':MS)(hr:XRow (fun g=>MZ Z v b g/\¬v1.ownBlock=some g) w1 T.l v1 l1)(K:Keeps (fun j=>v.ls.ownBlock=some j) W w1)(hf:∀g,v1.ownBlock=some g->v.ls.ownBlock=some g\/W.heap.size<=g)(hs':s'={s with letters:=l1}):
  MX T Z (w1.setCell ⟨b,16,none⟩ v1) b {v with ls:=v1} p s'/\MK b v W {v with ls:=v1} (w1.setCell ⟨b,16,none⟩ v1):=by
 subst hs';have E:v.ls.ownBlock≠some b:=fun e=>absurd (M.sep 5 0 b e rfl) (by decide);have J:w1.heap[b]? =some (.cells (ybT v s).toArray T.m (0,0)):=(K.block b (zlt M.h) E).trans M.h;have H:Keeps (fun j=>j=b) w1 (w1.setCell ⟨b,16,none⟩ v1):=Keeps.setCell (S:=fun j=>j=b) (p:=⟨b,16,none⟩) (Keeps.refl _ _) (.inl rfl) _;have D:Keeps (fun j=>j=b\/own v b 5=some j) W (w1.setCell ⟨b,16,none⟩ v1):=(K.mono (fun _ _ e=>.inr e)).trans H (fun _ _ e=>.inl e);have A:∀i,i≠5->own {v with ls:=v1} b i=own v b i:=fun i hi=>by
  match i with
  |0=>first|rfl|exact absurd rfl hi
  |1=>first|rfl|exact absurd rfl hi
  |2=>first|rfl|exact absurd rfl hi
  |3=>first|rfl|exact absurd rfl hi
  |4=>first|rfl|exact absurd rfl hi
  |5=>first|rfl|exact absurd rfl hi
  |6=>first|rfl|exact absurd rfl hi
  |_+7=>rfl
 have C:∀g,own {v with ls:=v1} b 5=some g->own v b 5=some g\/W.heap.size<=g:=hf;have I:∀g,v1.ownBlock=some g->g≠b:=fun g hg e=>by
  rcases hf g hg with h|h
  .exact E (e▸h)
  .have:=zlt M.h;omega
 have F:∀g,MO v b g->g<W.heap.size:=fun g=>M.lt;have B:XRow (MZ Z {v with ls:=v1} b) (w1.setCell ⟨b,16,none⟩ v1) T.l v1 l1:=by
  refine(hr.keep H (fun g h e=>h.1.1 ⟨0,by rw[e];rfl⟩) (fun g hg=>I g hg)).mono (fun g h _=>⟨fun e=> ?_,h.1.2⟩);exact(MO.turned A e).elim h.1.1 h.2
 refine⟨⟨by simp[World.setCell,zni,J];rfl,?_,?_,?_,?_,?_,?_,?_,?_,ybD F M.sep A C⟩,D.mono (fun j _ e=>e.elim (fun e=>⟨0,by rw[e];rfl⟩) (fun e=>⟨5,e⟩)),fun j h=>(MO.turned A h).elim .inl (fun e=>(hf j e).elim (fun e=>.inl ⟨5,e⟩) .inr)⟩
 .first|exact B|exact M.stk.turned (j0:=1) rfl (by decide) (by decide) M.sep A C D
 .first|exact B|exact M.pls.turned (j0:=2) rfl (by decide) (by decide) M.sep A C D
 .first|exact B|exact M.tms.turned (j0:=3) rfl (by decide) (by decide) M.sep A C D
 .first|exact B|exact M.acs.turned (j0:=4) rfl (by decide) (by decide) M.sep A C D
 .first|exact B|exact M.lts.turned (j0:=5) rfl (by decide) (by decide) M.sep A C D
 .first|exact B|exact M.mds.turned (j0:=6) rfl (by decide) (by decide) M.sep A C D
 .exact((M.img.mono (G:=fun g=>MZ Z v b g/\MZ Z {v with ls:=v1} b g) (fun g h hl=>⟨h,MZ.turned A C h hl⟩)).keep D (fun g h e=>e.elim (fun e=>h.1.1 ⟨0,by rw[e];rfl⟩) (fun e=>h.1.1 ⟨5,e⟩))).mono (fun g h _=>h.2)
 .exact((M.inp.mono (G:=fun g=>MZ Z v b g/\MZ Z {v with ls:=v1} b g) (fun g h hl=>⟨h,MZ.turned A C h hl⟩)).keep D (fun g h e=>e.elim (fun e=>h.1.1 ⟨0,by rw[e];rfl⟩) (fun e=>h.1.1 ⟨5,e⟩))).mono (fun g h _=>h.2)
theorem MX.setMds (M:MX T Z W b v p s){w1:World}{v1:Value}{l1:List Cm}(s':MS)(hr:XRow (fun g=>MZ Z v b g/\¬v1.ownBlock=some g) w1 T.c v1 l1)(K:Keeps (fun j=>v.ms.ownBlock=some j) W w1)(hf:∀g,v1.ownBlock=some g->v.ms.ownBlock=some g\/W.heap.size<=g)(hs':s'={s with made:=l1}):
  MX T Z (w1.setCell ⟨b,21,none⟩ v1) b {v with ms:=v1} p s'/\MK b v W {v with ms:=v1} (w1.setCell ⟨b,21,none⟩ v1):=by
 subst hs';have E:v.ms.ownBlock≠some b:=fun e=>absurd (M.sep 6 0 b e rfl) (by decide);have J:w1.heap[b]? =some (.cells (ybT v s).toArray T.m (0,0)):=(K.block b (zlt M.h) E).trans M.h;have H:Keeps (fun j=>j=b) w1 (w1.setCell ⟨b,21,none⟩ v1):=Keeps.setCell (S:=fun j=>j=b) (p:=⟨b,21,none⟩) (Keeps.refl _ _) (.inl rfl) _;have D:Keeps (fun j=>j=b\/own v b 6=some j) W (w1.setCell ⟨b,21,none⟩ v1):=(K.mono (fun _ _ e=>.inr e)).trans H (fun _ _ e=>.inl e);have A:∀i,i≠6->own {v with ms:=v1} b i=own v b i:=fun i hi=>by
  match i with
  |0=>first|rfl|exact absurd rfl hi
  |1=>first|rfl|exact absurd rfl hi
  |2=>first|rfl|exact absurd rfl hi
  |3=>first|rfl|exact absurd rfl hi
  |4=>first|rfl|exact absurd rfl hi
  |5=>first|rfl|exact absurd rfl hi
  |6=>first|rfl|exact absurd rfl hi
  |_+7=>rfl
 have C:∀g,own {v with ms:=v1} b 6=some g->own v b 6=some g\/W.heap.size<=g:=hf;have I:∀g,v1.ownBlock=some g->g≠b:=fun g hg e=>by
  rcases hf g hg with h|h
  .exact E (e▸h)
  .have:=zlt M.h;omega
 have F:∀g,MO v b g->g<W.heap.size:=fun g=>M.lt;have B:XRow (MZ Z {v with ms:=v1} b) (w1.setCell ⟨b,21,none⟩ v1) T.c v1 l1:=by
  refine(hr.keep H (fun g h e=>h.1.1 ⟨0,by rw[e];rfl⟩) (fun g hg=>I g hg)).mono (fun g h _=>⟨fun e=> ?_,h.1.2⟩);exact(MO.turned A e).elim h.1.1 h.2
 refine⟨⟨by simp[World.setCell,zni,J];rfl,?_,?_,?_,?_,?_,?_,?_,?_,ybD F M.sep A C⟩,D.mono (fun j _ e=>e.elim (fun e=>⟨0,by rw[e];rfl⟩) (fun e=>⟨6,e⟩)),fun j h=>(MO.turned A h).elim .inl (fun e=>(hf j e).elim (fun e=>.inl ⟨6,e⟩) .inr)⟩
 .first|exact B|exact M.stk.turned (j0:=1) rfl (by decide) (by decide) M.sep A C D
 .first|exact B|exact M.pls.turned (j0:=2) rfl (by decide) (by decide) M.sep A C D
 .first|exact B|exact M.tms.turned (j0:=3) rfl (by decide) (by decide) M.sep A C D
 .first|exact B|exact M.acs.turned (j0:=4) rfl (by decide) (by decide) M.sep A C D
 .first|exact B|exact M.lts.turned (j0:=5) rfl (by decide) (by decide) M.sep A C D
 .first|exact B|exact M.mds.turned (j0:=6) rfl (by decide) (by decide) M.sep A C D
 .exact((M.img.mono (G:=fun g=>MZ Z v b g/\MZ Z {v with ms:=v1} b g) (fun g h hl=>⟨h,MZ.turned A C h hl⟩)).keep D (fun g h e=>e.elim (fun e=>h.1.1 ⟨0,by rw[e];rfl⟩) (fun e=>h.1.1 ⟨6,e⟩))).mono (fun g h _=>h.2)
 .exact((M.inp.mono (G:=fun g=>MZ Z v b g/\MZ Z {v with ms:=v1} b g) (fun g h hl=>⟨h,MZ.turned A C h hl⟩)).keep D (fun g h e=>e.elim (fun e=>h.1.1 ⟨0,by rw[e];rfl⟩) (fun e=>h.1.1 ⟨6,e⟩))).mono (fun g h _=>h.2)
end
end Go.Va
