/- Parts of the proof: what the functions and the plain laws give that later parts lean on. Conditions: none beyond those that each theorem names. -/
import Derived.Test.YtpagmlndgblhhaaGreatDoorW16
set_option maxRecDepth 100000
set_option maxHeartbeats 8000000
namespace Go.Va
open Go.Own Go.RowKit
open Go.Proofs.YtpagmlndgblhhaaGreatDoor
theorem yki {k:Int}(h:yaH k=true):k=1\/k=8\/k=9\/k=10\/k=12\/k=14\/k=15\/k=19\/k=20:=znx h
theorem ygq (s:MS)(e:Ev):(hear s e).letters.length<=s.letters.length+1:=by
 unfold hear
 repeat' split
 all_goals first|exact Nat.le_succ _|exact Nat.le_of_eq (by show(s.letters++[_]).length=_;rw[znk];rfl)
theorem yle {p:Img}{fa:Fa}(K:Known p fa){s:MS}(S:St p fa s){e:Ev}(h0:yaf e=0)(hw:e.v.wf)(hov:s.over=false)(he:s.events<=30){s1:MS}(hs1:hear {s with now:=e.time,steps:=0,events:=s.events+1} e=s1):
  Rk p s1/\At fa s1/\s1.made.length+fuel p s1<=4000000000/\s1.letters.length<=4294967296/\s1.steps+fuel p s1<=4000000000/\s.letters.length<=30:=by
 have P:=yjZ K S he;obtain⟨s0,A⟩:∃s0:MS,s0={s with now:=e.time,steps:=0,events:=s.events+1}:=⟨_,rfl⟩;rw[<-A]at hs1;have V:=S.rk.vs;have O:Vs s0:=by rw[A];exact⟨V.stk,V.pls,V.inp,V.tms,V.acs,V.lts,V.mds,(ya0 h0).1,V.nt,V.na⟩
 have B:=yiv s0 e;have F:=ydK s0 e;have G:=yc7 s0 e;have H:=ygq s0 e;have I:=ykE (s:=s0) e (by rw[A];exact S.good.at_ hov);have J:=O.hear h0 hw;have M:=S.good.pot hov;have L:pot s0=pot s:=by rw[A];rfl
 have N:s.letters.length<=pot s:=by unfold pot;omega
 have E:s0.letters=s.letters:=by rw[A]
 have D:s0.made=s.made:=by rw[A]
 have C:s0.steps=0:=by rw[A]
 rw[hs1]at B F G H I J;have Q:fuel p s1<=(p.code.length+1)*(s.events+2):=by
  unfold fuel;exact Nat.mul_le_mul_left _ (by omega)
 refine⟨⟨J,by rw[B.1,A];exact S.rk.opn,by rw[B.2,A];exact S.rk.pls⟩,I,?_,?_,?_,by omega⟩
 .rw[G.1,D];omega
 .rw[E]at H;omega
 .rw[F.2.2,C];omega
end Go.Va
namespace Go.Proofs.YtpagmlndgblhhaaGreatDoor
open Go.RowKit Go.Own Go.Own.MapTy Go.Va Go.Sort
open Go.Own.Cells (sz enc)
theorem ygR
  {Z:Nat->Prop}(b:Nat)(v:MV)(p:Img)(s:MS)(W:World)(M:MX TT Z W b v p s){N:Nat}(G:Gl Tryz.prog N W)(fa:Fa)(K:Known p fa)(P:Pk p)(hsp:fa.span<=p.code.length+1)(S:St p fa s)(hev:s.events<=30)(hZ:∀j,W.heap.size<=j->Z j)
  (id t k a bb:Int)(nm tx:ByteArray)(x:Val)(vk vn:Int)(vs:ByteArray)(la:Option Addr)(ln lc:Nat)(F:Nat->Prop)(C:CF F W ⟨vk,vn,vs,la,ln,lc⟩ x)(hw:x.wf)(hF:∀g,F g->¬MO v b g)(r:Int×MS)(hr:yah p s ⟨id,t,k,a,bb,nm,tx,x⟩=r):
  Calls Tryz.prog 70 #[.pointer (some ⟨b,0,none⟩),.agg #[id,t,k,a,bb,nm,tx,vk,vn,vs,.slice la ln lc]] W (MP Z W b v p (.int .i64 r.1) r.2):=by
 subst hr;by_cases h0:yaf ⟨id,t,k,a,bb,nm,tx,x⟩=0
 .by_cases D:yaH k=true
  .have E:¬(yaf ⟨id,t,k,a,bb,nm,tx,x⟩≠0\/yaH k=false):=fun h=>h.elim (fun h=>h h0) (fun h=>by rw[D]at h;cases h)
   by_cases A:s.over=true
   .have e:yah p s ⟨id,t,k,a,bb,nm,tx,x⟩=(181,s):=by unfold yah;rw[if_neg E,if_pos A]
    rw[e];exact yjB b v p s W M G id t k a bb nm tx x vk vn vs la ln lc F C hw h0 D A
   .by_cases hbg:s.begun=(k==1)
    .have e:yah p s ⟨id,t,k,a,bb,nm,tx,x⟩=(7,s):=by unfold yah;rw[if_neg E,if_neg A,if_pos hbg]
     rw[e];exact yhP b v p s W M G id t k a bb nm tx x vk vn vs la ln lc F C hw h0 D (by simpa using A) hbg
    .obtain⟨s1,B⟩:∃s1,hear {s with now:=t,steps:=0,events:=s.events+1} ⟨id,t,k,a,bb,nm,tx,x⟩=s1:=⟨_,rfl⟩
     have e:yah p s ⟨id,t,k,a,bb,nm,tx,x⟩=(0,ym0 p s1):=by unfold yah;rw[if_neg E,if_neg A,if_neg hbg,<-B]
     rw[e];have A:s.over=false:=by simpa using A
     obtain⟨Y,c,X,V,U,d⟩:=yle K S h0 hw A hev B;have Q:∀(W':World) (v':MV),MX TT Z W' b v' p s1->W<=W'.heap.size->Calls Tryz.prog 109 #[.pointer (some ⟨b,0,none⟩)] W' (MP Z W' b v' p (.tuple #[]) (ym0 p s1)):=
      fun W' v' M' hs=>ymZ b v' p s1 W' M' fa K P Y (fuel p s1) (fun _=>⟨c,ygl hsp⟩) X V U (yad hZ hs) _ rfl
     have J:=S.rk.opn;unfold opn at J;have I:=ya0 h0;have R:=ycq (x:=x) ⟨I.2.2.2.2.2.2.2,hw⟩;have L:nm.size<=64:=I.2.2.2.2.2.1;have O:∀k:Int,(k==1)=false->¬s.begun=(k==1)->s.begun=true:=fun k hk h=>by rw[hk]at h;simpa using h
     by_cases h1:k=1
     .subst h1
      exact yhQ b v p s W M G id t a bb nm tx x vk vn vs la ln lc F C hw h0 A (by simpa using hbg) hF (by omega) hZ (by omega) s1 _ B Q
     .have T:=yki D
      refine yhR b v p s W M G id t k a bb nm tx x vk vn vs la ln lc F C hw h0 A (O k (by rw[zna];exact h1) hbg) hF (by omega) hZ (by omega) (by omega) (by omega) (by omega) L (by omega) s1 _ B Q (fun hk=> ?_);have H:s1.over=true:=by rw[<-B];rcases hk with rfl|rfl<;>rfl
      exact yd3 H _
  .have D:yaH k=false:=by simpa using D
   have e:yah p s ⟨id,t,k,a,bb,nm,tx,x⟩=(9,s):=by unfold yah;rw[if_pos (.inr D)]
   rw[e];exact yhS b v p s W M G id t k a bb nm tx x vk vn vs la ln lc F C hw h0 D
 .have e:yah p s ⟨id,t,k,a,bb,nm,tx,x⟩=(9,s):=by unfold yah;rw[if_pos (.inl h0)]
  rw[e];exact ylc b v p s W M G id t k a bb nm tx x vk vn vs la ln lc F C hw _ rfl (by simpa using h0)
end Go.Proofs.YtpagmlndgblhhaaGreatDoor
namespace Go.Va
open Go.Own Go.RowKit
open Go.Proofs.YtpagmlndgblhhaaGreatDoor
def MS.tkn (s:MS)(i _j:Nat):MS:={s with taken:=i}
theorem ya5 {a b a' b':MS}{c:Prop}[Decidable c]{i j:Nat}(ha:a'=a.tkn i j)(hb:b'=b.tkn i j):(if c then a' else b')=(if c then a else b).tkn i j:=by
 split
 .exact ha
 .exact hb
theorem yno (s:MS)(v:Val)(i j:Nat):(s.tkn i j).put v=(s.put v).tkn i j:=by
 unfold MS.put;exact ya5 rfl rfl
theorem ynr (s:MS)(op:Int)(a b:Val)(i j:Nat):(s.tkn i j).arith op a b=(s.arith op a b).tkn i j:=by
 unfold MS.arith;exact ya5 rfl rfl
theorem ypE (s:MS)(op:Int)(a b:Val)(i j:Nat):(s.tkn i j).two op a b=(s.two op a b).tkn i j:=by
 unfold MS.two;exact ya5 rfl (ya5 rfl (ya5 (ya5 rfl rfl) (ya5 (ya5 (yno _ _ _ _) (ya5 (yno _ _ _ _) rfl)) (ynr _ _ _ _ _ _))))
theorem yl0 (s:MS)(op:Int)(k i j:Nat):(s.tkn i j).reckon op k=(s.reckon op k).tkn i j:=by
 unfold MS.reckon;exact ya5 (yno {s with stk:=s.stk.take (s.stk.length - k)} _ _ _) (ya5 rfl (ya5 (ya5 rfl (ya5 rfl rfl)) (ypE s.pop.pop _ _ _ _ _)))
theorem ynq (s:MS)(op:Int)(name:ByteArray)(i j:Nat):(s.tkn i j).begin_ op name=(s.begin_ op name).tkn i j:=by
 unfold MS.begin_;dsimp only;refine ya5 ?_ (ya5 rfl (ya5 rfl (ya5 rfl rfl)));show(match(if s.top.kind=1 then yax s.top.num s.timers.list else none)with
  |none=>(s.tkn i j).pop.tGone
  |some k=>_)=_
 cases(if s.top.kind=1 then yax s.top.num s.timers.list else none)with
 |none=>rfl
 |some k=>
  show(bif (s.timers.list[k]?.getD ⟨0,false,yag,0⟩).over then({(s.tkn i j).pop with timers:=⟨s.timers.list.eraseIdx k,s.timers.next⟩}:MS)else({(s.tkn i j).pop with timers:=⟨s.timers.list.eraseIdx k,s.timers.next⟩}:MS).want ⟨2,0,s.top.num,0,⟨#[]⟩,yag⟩).push (yaE (!(s.timers.list[k]?.getD ⟨0,false,yag,0⟩).over))=((bif (s.timers.list[k]?.getD ⟨0,false,yag,0⟩).over then({s.pop with timers:=⟨s.timers.list.eraseIdx k,s.timers.next⟩}:MS)else({s.pop with timers:=⟨s.timers.list.eraseIdx k,s.timers.next⟩}:MS).want ⟨2,0,s.top.num,0,⟨#[]⟩,yag⟩).push (yaE (!(s.timers.list[k]?.getD ⟨0,false,yag,0⟩).over))).tkn i j;cases(s.timers.list[k]?.getD ⟨0,false,yag,0⟩).over<;>rfl
theorem yov (s:MS)(op:Int)(name:ByteArray)(i j:Nat):(s.tkn i j).wait op name=(s.wait op name).map (·.tkn i j):=by
 unfold MS.wait;by_cases h22:op=22
 .rw[if_pos h22,if_pos h22]
  show(yao name s.letters).map _=_;cases yao name s.letters<;>rfl
 .rw[if_neg h22,if_neg h22]
  dsimp only;show(match(if s.top.kind=1 then yax s.top.num (if op=21 then s.acts.list else s.timers.list)else none)with
   |none=>some (s.tkn i j).tGone
   |some k=>_)=_
  cases(if s.top.kind=1 then yax s.top.num (if op=21 then s.acts.list else s.timers.list)else none)with
  |none=>rfl
  |some k=>
   dsimp only;show(match(if op=28 then yao name s.letters else none)with
    |some m=>_
    |none=>_)=_
   cases(if op=28 then yao name s.letters else none)with
   |some m=>rfl
   |none=>
    dsimp only;show(bif !((if op=21 then s.acts.list else s.timers.list)[k]?.getD ⟨0,false,yag,0⟩).over then none else _)=_;cases((if op=21 then s.acts.list else s.timers.list)[k]?.getD ⟨0,false,yag,0⟩).over with
    |false=>rfl
    |true=>
     simp only[Bool.not_true,znl,Option.map_some];by_cases h21:op=21
     .subst h21;rfl
     .by_cases h18:op=18
      .subst h18;rfl
      .simp only[if_neg h21,if_neg h18];rfl
theorem ypH (s:MS)(op:Int)(name:ByteArray)(i j:Nat):(s.tkn i j).end_ op name=(s.end_ op name).tkn i j:=by
 unfold MS.end_;exact ya5 rfl (ya5 rfl rfl)
theorem yqx (s:MS)(p:Img)(op:Int)(k i j:Nat):(s.tkn i j).go p op k=(s.go p op k).tkn i j:=by
 unfold MS.go;dsimp only;refine ya5 rfl (ya5 rfl (ya5 rfl (ya5 rfl (ya5 rfl (ya5 rfl (ya5 rfl (ya5 rfl (ya5 rfl (ya5 ?_ (ya5 (ynq _ _ _ _ _) (ya5 rfl (yl0 _ _ _ _ _))))))))))));show(match yao (p.names[k]?.getD ⟨#[]⟩) s.letters with
  |some m=>_
  |none=>_)=_
 cases yao (p.names[k]?.getD ⟨#[]⟩) s.letters<;>rfl
theorem ykA (p:Img)(s:MS)(i j:Nat):yal p (s.tkn i j)=(yal p s).map (·.tkn i j):=by
 unfold yal;have A:(s.tkn i j).at_=s.at_:=rfl;rw[A];dsimp only;cases hb:(ofL (p.code[s.at_]?.getD ⟨0,0⟩).op).1.blocks with
 |true=>exact yov _ _ _ _ _
 |false=>
  simp only[znl];cases he:(ofL (p.code[s.at_]?.getD ⟨0,0⟩).op).1.ends with
  |true=>simp only[znm,Option.map_some];rw[<-ypH]
  |false=>
   simp only[znl];cases hf:(ofL (p.code[s.at_]?.getD ⟨0,0⟩).op).1.flow with
   |true=>
    simp only[znm,Option.map_some]
    congr 1
    show(bif (p.code[s.at_]?.getD ⟨0,0⟩).op==11 then _ else bif ycm s.top then _ else _)=_;cases((p.code[s.at_]?.getD ⟨0,0⟩).op==11)
    .cases ycm s.top<;>rfl
    .rfl
   |false=>
    simp only[znl,Option.map_some]
    congr 1
    exact yqx s.nxt p _ _ i j
theorem ylt {p:Img}{s:MS}(n:Nat)(h:yal p s=none):yal p {s with taken:=n}=none:=by
 have:=ykA p s n 0;rw[h]at this;exact this
theorem yjn (s:MS)(e:Ev):(hear s e).taken=s.taken:=by
 unfold hear
 repeat' split
 all_goals rfl
theorem yiV {p:Img}{s s':MS}(h:yal p s=some s'):s'.taken=s.taken:=by
 have k:=ykA p s s.taken 0;rw[h]at k;have e:s.tkn s.taken 0=s:=rfl;rw[e,h]at k;simp only[Option.map_some,Option.some.injEq]at k;rw[k];rfl
theorem yf3 (p:Img):∀(f:Nat) (s:MS),(ya1 p f s).taken=s.taken
 |0,_=>rfl
 |f+1,s=>by
  rw[ya1];cases s.over with
  |true=>rfl
  |false=>
   simp only[znl];cases h:yal p s with
   |none=>rfl
   |some s'=>exact(yf3 p f {s' with steps:=s'.steps+1}).trans (show s'.taken=s.taken from yiV h)
theorem yeG (p:Img)(s:MS)(e:Ev):(yah p s e).2.taken=s.taken:=by
 rcases ybV p s e with⟨_,h⟩|⟨_,_,_,_,h⟩
 .rw[h]
 .rw[h]
  exact(yf3 p _ _).trans (yjn _ _)
set_option linter.unusedVariables false
theorem yow (p:Img)(i j:Nat):∀(f:Nat) (s:MS),ya1 p f (s.tkn i j)=(ya1 p f s).tkn i j
 |0,s=>rfl
 |f+1,s=>by
  rw[ya1,ya1,ykA];show(bif s.over then _ else _)=_;cases s.over with
  |true=>rfl
  |false=>
   simp only[znl];cases yal p s with
   |none=>rfl
   |some s'=>exact yow p i j f {s' with steps:=s'.steps+1}
theorem yoy (s:MS)(e:Ev)(i j:Nat):hear (s.tkn i j) e=(hear s e).tkn i j:=by
 unfold hear
 repeat' split
 all_goals rfl
theorem yns (p:Img)(s:MS)(e:Ev)(i j:Nat):yah p (s.tkn i j) e=((yah p s e).1,(yah p s e).2.tkn i j):=by
 unfold yah;by_cases h1:yaf e≠0\/yaH e.kind=false
 .rw[if_pos h1,if_pos h1]
 .rw[if_neg h1,if_neg h1]
  by_cases h2:s.over=true
  .rw[if_pos h2,if_pos (show(s.tkn i j).over=true from h2)]
  .rw[if_neg h2,if_neg (show¬(s.tkn i j).over=true from h2)]
   by_cases h3:s.begun=(e.kind==1)
   .rw[if_pos h3,if_pos (show(s.tkn i j).begun=(e.kind==1)from h3)]
   .rw[if_neg h3,if_neg (show¬(s.tkn i j).begun=(e.kind==1)from h3)]
    have A:=yoy {s with now:=e.time,steps:=0,events:=s.events+1} e i j;have B:hear {s.tkn i j with now:=e.time,steps:=0,events:=(s.tkn i j).events+1} e=(hear {s with now:=e.time,steps:=0,events:=s.events+1} e).tkn i j:=A;rw[B];exact congrArg (fun z=>((0:Int),z)) (yow p i j _ _)
structure RM where
 m:MS
 o:List Ev
 gone:List Int
 fired:List Int
 over:Bool
def rmC (r:RM)(c:Cm):RM:=bif r.over||((c.kind==2)&&decide (c.a∈r.fired))then r else{r with o:=r.o++[evOfC c],gone:=if(evOfC c).kind=13 then(evOfC c).a::r.gone else r.gone,over:=yaG (evOfC c).kind}
def rmX (p:Img)(r:RM)(x:Ev):Int×RM:=
 bif r.over||((x.kind==12)&&decide (x.a∈r.gone))then(0,r)else
 bif (yah p r.m x).1 !=0 then((yah p r.m x).1,r)else
 (0,((yah p r.m x).2.made.drop (yah p r.m x).2.taken).foldl rmC ⟨{(yah p r.m x).2 with taken:=(yah p r.m x).2.made.length},r.o++[x],r.gone,if x.kind=12 then x.a::r.fired else r.fired,yaG x.kind⟩)
def rmL (p:Img):RM->List Ev->Int×RM
 |r,[]=>(0,r)
 |r,x::l=>bif (rmX p r x).1 !=0 then rmX p r x else rmL p (rmX p r x).2 l
def rm0 (p:Img):RM:=⟨ms0 p,[],[],[],false⟩
structure Ry (p:Img)(fa:Fa)(r:RM)(b:BK)(n:Nat):Prop where
 bk:Bk p fa b n 0
 pre:∀k,∃q,HI p (b.list.take k) q
 o:r.o.map yap=b.list.map yap
 over:r.over=b.over
 mach:r.m.tkn 0 0=(rB p b).m
 fired:r.fired=(rB p b).fired
 gone:∀a,a∈r.gone↔yeS b.list a=true
section
variable{p:Img} {fa:Fa} {r:RM} {b:BK} {n:Nat}
theorem yjt {c:Cm}:yaG (evOfC c).kind=ymG c:=by
 unfold evOfC ymG;by_cases h1:c.kind=1
 .rw[if_pos h1,h1];rfl
 .rw[if_neg h1]
  by_cases h2:c.kind=2
  .rw[if_pos h2,h2];rfl
  .rw[if_neg h2]
   by_cases h3:c.kind=3
   .rw[if_pos h3,h3];rfl
   .rw[if_neg h3]
    by_cases h4:c.kind=4
    .rw[if_pos h4,h4];rfl
    .rw[if_neg h4]
     by_cases h5:c.kind=5
     .rw[if_pos h5,h5];rfl
     .rw[if_neg h5]
      by_cases h6:c.kind=6
      .rw[if_pos h6,h6];rfl
      .rw[if_neg h6,show(c.kind==4)=false by rw[zna];exact h4,show(c.kind==5)=false by rw[zna];exact h5,show(c.kind==6)=false by rw[zna];exact h6]
       rfl
theorem yif {l:List Ev}{e:Ev}{q:RP}(h:∀k,∃q,HI p (l.take k) q)(hq:HI p (l++[e]) q):∀k,∃q,HI p ((l++[e]).take k) q:=fun k=>by
 by_cases hk:k<=l.length
 .rw[List.take_append_of_le_length hk];exact h k
 .rw[zmj (by rw[znk,zmh];omega)];exact⟨q,hq⟩
theorem ygr (l:List Ev)(e:Ev)(a:Int):yeS (l++[e]) a=(yeS l a||((e.kind==13)&&(e.a==a))):=by
 unfold yeS;rw[List.any_append];simp
theorem Ry.cmds (hn:n<=30){F:List Int}:∀(cs:List Cm) (r:RM) (b:BK),Ry p fa r b n->CmI p fa n 0 F cs [] b->(b.over=true->cs=[])->(∀(i:Nat) (c:Cm),cs[i]? =some c->i+1<cs.length->ymG c=false)->∃b',Ry p fa (cs.foldl rmC r) b' n/\CmI p fa n 0 F [] [] b'
 |[],r,b,R,C,_,_=>⟨b,R,C⟩
 |c::cs,r,b,R,C,hov,hend=>by
  have ho:b.over=false:=by
   cases h:b.over with
   |false=>rfl
   |true=>cases hov h
  rw[List.foldl_cons];have A:=C.step hn (by decide) ho;have D:((c.kind==2)&&decide (c.a∈r.fired))= !((c.kind !=2)|| !yep b.list c.a):=by
   rw[C.bk.late,Bool.not_not,R.fired];rfl
  have B:∀(i:Nat) (d:Cm),cs[i]? =some d->i+1<cs.length->ymG d=false:=fun i d hd hi=>hend (i+1) d hd (by rw[List.length_cons];omega);unfold rmC;rw[R.over,ho,Bool.false_or,D];cases hw:((c.kind !=2)|| !yep b.list c.a)with
  |false=>
   rw[hw]at A;exact Ry.cmds hn cs r b R A (fun h=>by rw[ho]at h;cases h) B
  |true=>
   rw[hw,znm]at A;have I:=A.bk;have hk:(evW c).kind=(evOfC c).kind:=yiB c;have hm:ybd (evW c).kind=true:=by
    have H:c∈(rB p b).m.made:=by
     have E:=C.nl;rw[yds,show ybe F c=false by have G:=C.bk.late c;rw[hw,C.fired]at G;simpa using G.symm,znl]at E;exact List.mem_of_mem_drop (List.mem_filter.1 (show c∈NL F ((rB p b).m.made.drop (rB p b).next) by rw[E];exact List.mem_append_left _ zmf)).1
    exact(yhE (C.bk.st.rk.vs.mds c H).1 (n:=1) (by decide) (by decide)).2.1
   refine Ry.cmds hn cs _ (ydM b (evW c)) ⟨I,yif R.pre I.hi,?_,?_,?_,?_,?_⟩ A ?_ B
   .show(r.o++[evOfC c]).map yap=(b.list++[{evW c with id:=(b.list.length:Int)+1}]).map yap
    rw[List.map_append,List.map_append,R.o];show _++[yap (evOfC c)]=_++[yap {evW c with id:=(b.list.length:Int)+1}];exact congrArg (fun z=>b.list.map yap++[z]) ((yht c).trans (yiA c).symm)
   .show yaG (evOfC c).kind=(b.over||yaG (evW c).kind)
    rw[ho,hk];rfl
   .have E:=I.hi.mach
    have G:=C.bk.hi.mach;have K:yau (ydM b (evW c)).list=yau b.list:=by
     show yau (b.list++[_])=_;rw[ybf,show yau [({evW c with id:=(b.list.length:Int)+1}:Ev)]=[] by unfold yau;rw[List.filter_cons,if_neg (by show¬yaH (evW c).kind=true;rw[yc4 hm];decide)];rfl,List.append_nil]
    rw[K,<-G]at E;rw[E];exact R.mach
   .show r.fired=_
    rw[A.fired,R.fired,C.fired]
   .intro a
    show a∈(if(evOfC c).kind=13 then(evOfC c).a::r.gone else r.gone)↔yeS (b.list++[_]) a=true;rw[ygr,Bool.or_eq_true,<-R.gone];have J:(evW c).a=(evOfC c).a:=by unfold evW;split<;>rfl
    show _↔_\/(((evW c).kind==13)&&((evW c).a==a))=true;rw[hk,J,Bool.and_eq_true,beq_iff_eq,beq_iff_eq];by_cases h13:(evOfC c).kind=13
    .rw[if_pos h13,List.mem_cons]
     constructor
     .rintro(h|h)
      .exact .inr ⟨h13,h.symm⟩
      .exact .inl h
     .rintro(h|h)
      .exact .inr h
      .exact .inl h.2.symm
    .rw[if_neg h13]
     exact⟨.inl,fun h=>h.elim id (fun h=>absurd h.1 h13)⟩
   .intro h
    have h:(b.over||yaG (evW c).kind)=true:=h;rw[ho,hk,Bool.false_or,yjt]at h;cases cs with
    |nil=>rfl
    |cons d ds=>
     have:=hend 0 c rfl (by rw[List.length_cons,List.length_cons];omega);rw[this]at h;cases h
theorem ypa {F G:List Int}(h:∀a∈F,a∈G){l:List Cm}(hl:NL F l=[]):NL G l=[]:=by
 unfold NL at hl|-;rw[List.filter_eq_nil_iff]at hl|-;intro c B A;refine hl c B ?_;unfold ybe at A|-;cases hk:(c.kind==2)with
 |false=>rfl
 |true=>
  rw[hk,Bool.true_and]at A;rw[Bool.true_and];have:decide (c.a∈F)=false:=znd (fun hf=>by rw[zno (h _ hf)]at A;cases A);rw[this];rfl
theorem ypv (r:RM)(c:Cm):(rmC r c).m=r.m:=by
 unfold rmC;cases(r.over||((c.kind==2)&&decide (c.a∈r.fired)))<;>rfl
theorem yie:∀(cs:List Cm) (r:RM),(cs.foldl rmC r).m=r.m
 |[],_=>rfl
 |c::cs,r=>by rw[List.foldl_cons,yie cs,ypv]
theorem yhT (p:Img)(s:MS){e:Ev}(hk:e.kind=19\/e.kind=20):(yah p s e).2.made=s.made:=by
 rcases ybV p s e with⟨_,h⟩|⟨_,_,_,_,h⟩
 .rw[h]
 .rw[h]
  have A:(hear {s with now:=e.time,steps:=0,events:=s.events+1} e).over=true:=by
   unfold hear;rcases hk with h|h<;>rw[h]<;>rfl
  show(ya1 p _ _).made=_;rw[yd3 A,(yc7 _ _).1]
theorem Ry.x (R:Ry p fa r b n)(hnl:NL (rB p b).fired ((rB p b).m.made.drop (rB p b).next)=[])(htk:r.m.taken=r.m.made.length)(K:Known p fa)(P:Pk p)(hsp:fa.span<=p.code.length+1){x:Ev}(h0:yaf x=0)(hw:x.v.wf)(hk:yaH x.kind=true)(hf:b.list=[]↔x.kind=1)(hn:n+1<=30)(he:(rmX p r x).1=0):
  ∃b' n',Ry p fa (rmX p r x).2 b' n'/\NL (rB p b').fired ((rB p b').m.made.drop (rB p b').next)=[]/\(rmX p r x).2.m.taken=(rmX p r x).2.m.made.length/\n'<=n+1/\b'.list≠[]:=by
 have U:r.m.made=(rB p b).m.made:=(congrArg MS.made R.mach:(r.m.tkn 0 0).made=_);unfold rmX at he|-;cases hs:(r.over||((x.kind==12)&&decide (x.a∈r.gone)))with
 |true=>
  refine⟨b,n,R,hnl,htk,Nat.le_succ _,fun hb=> ?_⟩;have f:=hf.1 hb;rw[f,show((1:Int)==12)=false from rfl,Bool.false_and,Bool.or_false,R.over,<-R.bk.over]at hs;have:(rB p b).closed=false:=by rw[R.bk.hi.closed,hb];rfl
  rw[this]at hs;cases hs
 |false=>
  rw[hs,znl]at he;rw[znl];cases hz:((yah p r.m x).1 !=0)with
  |true=>
   rw[hz,znm]at he;have he:(yah p r.m x).1=0:=he;rw[he]at hz;cases hz
  |false=>
   rw[znl];obtain⟨s1,A⟩:∃s1,(yah p r.m x).2=s1:=⟨_,rfl⟩;rw[A];have O:r.over=false:=(Bool.or_eq_false_iff.1 hs).1;have L:b.over=false:=by rw[<-R.over];exact O
   have d:x.kind=12->yeS b.list x.a=false:=fun h12=>by
    have Y:=(Bool.or_eq_false_iff.1 hs).2;rw[h12,show((12:Int)==12)=true from rfl,Bool.true_and,znz,R.gone]at Y;simpa using Y
   have q:=R.bk.len (by omega);have M:=yiI h0 (n:=(b.list.length:Int)+1) (by omega) (by omega);have N:=R.bk.out_ K P hsp L h0 hw hk hf d hn (by decide);have H:=R.bk.hi.o (R.bk.want L M hf) hk (fun h12 c hcm B ha=>by
    have:=d h12;unfold yeS at this;rw[List.any_eq_false]at this;refine this c hcm ?_;rw[Bool.and_eq_true,beq_iff_eq,beq_iff_eq];exact⟨B,ha⟩)
   have Q:rB p (ydM b x)=_:=H.fed;have X:yah p (rB p b).m {x with id:=(b.list.length:Int)+1}=((yah p r.m x).1,s1.tkn 0 0):=by
    rw[yfn M h0 rfl,<-R.mach,yns,A]
   have I:(rB p (ydM b x)).m=s1.tkn 0 0:=by rw[Q];exact congrArg Prod.snd X
   have J:(rB p (ydM b x)).fired=if x.kind=12 then x.a::(rB p b).fired else(rB p b).fired:=by rw[Q]
   have T:(rB p (ydM b x)).next=(rB p b).next:=by rw[Q]
   obtain⟨k,D⟩:=yeH p r.m x;rw[A]at D;have E:s1.taken=r.m.taken:=by rw[<-A];exact yeG p r.m x
   have W:s1.made.drop s1.taken=k:=by rw[E,htk,D,List.drop_left]
   have G:(rB p (ydM b x)).m.made=(rB p b).m.made++k:=by rw[I,<-U,<-D];rfl
   have g:NL (rB p (ydM b x)).fired ((rB p (ydM b x)).m.made.drop (rB p (ydM b x)).next)=NL (rB p (ydM b x)).fired k++[]:=by
    rw[G,T,List.drop_append_of_le_length R.bk.hi.next,yfq,ypa (F:=(rB p b).fired) (fun a ha=>by rw[J];split;exact zme _ ha;exact ha) hnl,List.nil_append,List.append_nil]
   have S:(ydM b x).list≠[]:=by show b.list++[_]≠[];simp
   have j:Ry p fa ⟨{s1 with taken:=s1.made.length},r.o++[x],r.gone,if x.kind=12 then x.a::r.fired else r.fired,yaG x.kind⟩ (ydM b x) (n+1):=by
    refine⟨N,yif R.pre N.hi,?_,?_,I.symm,?_,fun a=> ?_⟩
    .show(r.o++[x]).map yap=(b.list++[{x with id:=(b.list.length:Int)+1}]).map yap
     rw[List.map_append,List.map_append,R.o];rfl
    .show yaG x.kind=(b.over||yaG x.kind)
     rw[L];rfl
    .show(if x.kind=12 then x.a::r.fired else r.fired)=_
     rw[J,R.fired]
    .show a∈r.gone↔yeS (b.list++[_]) a=true
     rw[ygr,R.gone,show(({x with id:=(b.list.length:Int)+1}:Ev).kind==13)=false by
      rw[zna];intro B;have B:x.kind=13:=B;rw[B]at hk;exact absurd hk (by decide),Bool.false_and,Bool.or_false]
   obtain⟨b',l,Z⟩:=Ry.cmds (F:=(rB p (ydM b x)).fired) hn k _ _ j ⟨N,S,rfl,g⟩ (fun C=>by
    have C:(b.over||yaG x.kind)=true:=C;rw[L,Bool.false_or]at C;have V:x.kind=19\/x.kind=20:=by
     have f:16<=x.kind/\x.kind<=21:=znx C;have Y:x.kind=1\/x.kind=8\/x.kind=9\/x.kind=10\/x.kind=12\/x.kind=14\/x.kind=15\/x.kind=19\/x.kind=20:=znx hk;omega
    have e:=yhT p r.m V;rw[A,D]at e;exact List.append_cancel_left (e.trans (List.append_nil _).symm)) (fun i c M hi=>by
    refine N.st.ml.last c ?_;rw[G,List.dropLast_append_of_ne_nil (fun h=>by rw[h]at hi;simp at hi)];refine List.mem_append_right _ ?_;rw[List.dropLast_eq_take];exact zmg (i:=i) (by rw[List.getElem?_take,if_pos (by omega)];exact M))
   refine⟨b',n+1,?_,?_,?_,znc _,Z.ne⟩
   .show Ry p fa ((s1.made.drop s1.taken).foldl rmC _) b' (n+1)
    rw[W];exact l
   .rw[Z.fired,Z.nl];rfl
   .show((s1.made.drop s1.taken).foldl rmC _).m.taken=((s1.made.drop s1.taken).foldl rmC _).m.made.length
    rw[yie]
theorem yka (K:Known p fa)(P:Pk p)(hsp:fa.span<=p.code.length+1):∀(l:List Ev) (r:RM) (b:BK) (n:Nat),Ry p fa r b n->NL (rB p b).fired ((rB p b).m.made.drop (rB p b).next)=[]->r.m.taken=r.m.made.length->(∀(i:Nat) (e:Ev),l[i]? =some e->yaf e=0/\yaH e.kind=true/\(e.kind=1↔(b.list=[]/\i=0))/\e.v.wf)->n+l.length<=30->(rmL p r l).1=0->
  ∃b' n',Ry p fa (rmL p r l).2 b' n'/\NL (rB p b').fired ((rB p b').m.made.drop (rB p b').next)=[]/\n'<=n+l.length/\(b.list≠[]\/l≠[]->b'.list≠[])
 |[],r,b,n,R,hnl,_,_,_,_=>⟨b,n,R,hnl,znc _,fun h=>h.elim id (fun h=>absurd rfl h)⟩
 |x::l,r,b,n,R,hnl,htk,hl,hn,he=>by
  rw[List.length_cons]at hn;rw[rmL]at he|-;obtain⟨h0,hk,hf,hw⟩:=hl 0 x rfl;cases hz:((rmX p r x).1 !=0)with
  |true=>
   rw[hz,znm]at he;rw[he]at hz;cases hz
  |false=>
   rw[hz,znl]at he;rw[znl];obtain⟨F,C,M,N1,L,D,B⟩:=R.x hnl htk K P hsp h0 hw hk (by rw[hf];exact⟨fun h=>⟨h,rfl⟩,fun h=>h.1⟩) (by omega) (by simpa using hz);obtain⟨b',n',N,O,E,A⟩:=yka K P hsp l _ F C M N1 L (fun i e hi=>by
    obtain⟨J,I,H,G⟩:=hl (i+1) e hi;refine⟨J,I,⟨fun h=>absurd (H.1 h).2 (by omega),fun h=>absurd h.1 B⟩,G⟩) (by omega) he
   exact⟨b',n',N,O,by rw[List.length_cons];omega,fun _=>A (.inl B)⟩
theorem ry0 (S:St p fa (ms0 p)):Ry p fa (rm0 p) ⟨[],false⟩ 0:=⟨yoR S,fun k=>⟨rp0 p,by rw[List.take_nil];exact ymD p⟩,rfl,rfl,rfl,rfl,fun a=>⟨fun h=>(by cases h),fun h=>(by cases h)⟩⟩
end
end Go.Va
namespace Go.Proofs.YtpagmlndgblhhaaGreatDoor
open Go.RowKit Go.Own Go.Own.MapTy Go.Va Go.Sort
open Go.Own.Cells (sz enc)
def ybh (c:Cm):Cm:={c with v:=yaa c.v}
def ypc (W:World)(l:List Cm)(e:Ending)(w':World):Prop:=∃r:Value,e= .returned r/\Hid (XRow (fun g=>W<=g) w' 52 r l/\(∀g,r.ownBlock=some g->W.heap.size<=g)/\Below W W w')
theorem yaL {α β:Type}[Cells α][Elt α β]{F:Nat->Prop}{w:World}{e:TypeId}{v:Value}{l:List β}(h:XRow F w e v l):∃a n c,v= .slice a n c:=by
 obtain⟨a,c,h⟩:=h.slice;exact⟨_,_,_,h⟩
def yqa (W:World)(l:List Cm)(gk:Nat)(v3 v11:Value)(wr:World):Prop:=
 ∃i:Nat,v11= .int .i64 i/\i<=l.length/\gk=l.length - i/\XRow (fun g=>W<=g/\¬v3.ownBlock=some g) wr 52 v3 ((l.take i).map ybh)/\(∀g,v3.ownBlock=some g->W.heap.size<=g)/\Below W W wr
theorem yis
  {Z:Nat->Prop}(b:Nat)(v:MV)(p:Img)(s:MS)(W:World)(M:MX TT Z W b v p s)
  (hz:∀c∈s.made,szV c.v<=1073741824)(hl:s.made.length<=4294967296):
  Calls Tryz.prog 49 #[.pointer (some ⟨b,0,none⟩)] W (ypc W (s.made.map ybh)):=by
 obtain⟨am,cap,r⟩:∃a cap,v.ms= .slice a s.made.length cap:=M.mds.slice;have Ak:W.cell? ⟨b,21,none⟩=some (.slice am s.made.length cap):=by rw[<-r];exact M.cell (k:=21) rfl
 have hR:XRow (MZ Z v b) W 52 (.slice am s.made.length cap) s.made:=r▸M.mds;have b0:=zlt M.h;have HX:=zh3 hR hz hl;clear M r hR hz hl;go_in;go_wp2_with fail;obtain⟨n,hn⟩:∃n,s.made.length=n:=⟨_,rfl⟩;have O:=zhd hn;rw[hn];clear hn Ak;go_loopg [3,11] n (fun gk v3 v11 wr=>yqa W s.made gk v3 v11 wr)
 case atStart=>exact⟨0,rfl,znq _,by rw[O.o];rfl,XRow.nil _ _ _,(fun g h=>by cases h),znv _ _⟩
 case round=>
  obtain⟨i,rfl,hi,P,hX,hO,hB⟩:=hrel;rw[O.o]at hi P;by_cases hin:i<n
  .obtain⟨c,hc⟩:=yae (l:=s.made) (k:=i) (by rw[O.o];exact hin)
   obtain⟨g,E,cc,rfl,B,hrel,_,C⟩:=HX.o.1.at_ hc;have Am:(i:Int)<(n:Int):=by omega
   have Ag:wrap64 ((i:Int)+1)=(i:Int)+1:=by have:=HX.o.2.2;have:=O.o;unfold wrap64;omega
   obtain⟨T,Q,V,U,R,⟨vk,vn,vs,la,ln,lc⟩⟩:=cc;have m0:W.cell? ⟨g,E+i*9,none⟩=some (.int .i64 T):=C 0 _ rfl;have m1:W.cell? ⟨g,E+i*9+1,none⟩=some (.int .i64 Q):=C 1 _ rfl;have m2:W.cell? ⟨g,E+i*9+2,none⟩=some (.int .i64 V):=C 2 _ rfl;have m3:W.cell? ⟨g,E+i*9+3,none⟩=some (.int .i64 U):=C 3 _ rfl;have m4:W.cell? ⟨g,E+i*9+4,none⟩=some (.string R):=C 4 _ rfl;have m5:W.cell? ⟨g,E+i*9+5,none⟩=some (.int .i64 vk):=C 5 _ rfl;have m6:W.cell? ⟨g,E+i*9+6,none⟩=some (.int .i64 vn):=C 6 _ rfl;have m7:W.cell? ⟨g,E+i*9+7,none⟩=some (.string vs):=C 7 _ rfl;have m8:W.cell? ⟨g,E+i*9+8,none⟩=some (.slice la ln lc):=C 8 _ rfl;rw[<-hB.cell (p:=⟨g,_,none⟩) B]at m0 m1 m2 m3 m4 m5 m6 m7 m8;have As:g<wr:=znj B hB.size;have N:CmF (MZ Z v b) W ⟨T,Q,V,U,R,⟨vk,vn,vs,la,ln,lc⟩⟩ c:=hrel;have Aa:=HX.o.2.1 c (zmg hc);have D:=zh7 hX hO hB N hc P Aa;clear C hrel N hX hO hB hc P hi Aa;go_upto_region 5 with(fail);refine yab ?_;intro w1 m;have B1:=zba m;have K:=zha m;have q5:=zca K 5 rfl;have q6:=zca K 6 rfl;have q7:=zca K 7 rfl;have q8:=zca K 8 rfl;have Aj:=zlt K
   have CL:=zhd (yay c.v vk vn vs la ln lc _ w1 ((D.o.2.2.2.1.v.keep (S:=fun _=>False) (zkb D.o.2.2.1) (fun _ _ f=>f)).keep (S:=fun _=>False) (zkb B1) (fun _ _ f=>f)) D.o.2.2.2.2.2.2);have H1:=zh2 B1 K;clear m B1 K m0 m1 m2 m3 m4 m5 m6 m7 m8;go_wp2_with fail;refine CL.o.mono ?_;rintro e w2 ⟨⟨d,Y,X,I,F,H⟩,rfl,H2⟩;have J:=(H2.o.2.block wr Aj).trans H1.o.2;have At:∀o,w2.frozen? ⟨wr,o,none⟩=false:=fun o=>zfr J o;have Ar:=zlt J;have q5:=zca J 5 rfl;have q6:=zca J 6 rfl;have q7:=zca J 7 rfl;have q8:=zca J 8 rfl;have Al:=zhd J;clear J;go_upto_region 6 with(fail);refine yab ?_;intro w3 L;have A:w3.heap[wr.heap.size]? =some (.cells #[T,Q,V,U,R,d,Y,X,.slice I F H] 52 (0,0)):=by
    rw[L];have:=Al.o;simp[World.setCell,zni,this]
   have K3:Keeps (fun j=>j=wr) w2 w3:=by rw[L];exact ycu w2 wr.heap.size 5 6 7 8 _ _ _ _
   have q0:=zca A 0 rfl;have q1:=zca A 1 rfl;have q2:=zca A 2 rfl;have q3:=zca A 3 rfl;have q4:=zca A 4 rfl;have q5:=zca A 5 rfl;have q6:=zca A 6 rfl;have q7:=zca A 7 rfl;have q8:=zca A 8 rfl;have Aq:=zlt A;have z:Below wr wr w2:=H1.o.1.trans (H2.o.2.mono H1.o.1.size);have y:Below wr wr w3:=z.trans (K3.below z.size (fun jz hj e=>Nat.ne_of_lt hj e));have C3:CF (fun g=>wr<=g/\g≠wr) w3 ⟨d,Y,X,I,F,H⟩ (yaa c.v):=(H2.o.1.mono (G:=fun g=>wr<=g/\g≠wr) (fun g B _=>by have B:w1<=g:=B;omega)).keep K3 (fun g B e=>B.2 e);obtain⟨va,vl,vc,Ah⟩:=yaL D.o.1;subst Ah;obtain⟨ks,Ae,u⟩:=(D.o.1.below y).cells;have t:ks.length=i:=by
    rw[u.1,zmd,List.length_take];have:=O.o;omega
   have RA:=zhd (Ae.below ((znv w3.heap.size w3).alloc (znc _) (.cells #[T,Q,V,U,R,d,Y,X,.slice I F H] 52)));have Af:=zhd (show(ks.length+1)*104<=140737488355328/\ks.length+1<=maxLen from by have:=HX.o.2.2;have:=O.o;rw[t];unfold maxLen;omega);have H3:=zh4 u C3 y t;clear L A K3 z y C3 Ae u t;go_wp2_with (at_builtin;refine ybk (α:=CC) ynH rfl (.tmp 19) (.tmp 21) rfl RA.o (⟨T,Q,V,U,R,⟨d,Y,X,I,F,H⟩⟩:CC) rfl rfl (znb _ _) Af.o.1 Af.o.2 ?_;intro a1 c1 w4 Ab Ac Ad;have HF:=zh3 Ab Ac Ad;clear Ab Ac Ad);go_roundg (n - (i+1))
   case measure=>have h1:=D.o.2.2.2.2.2.1;have h2:=O.o;omega
   case rel=>
    have A4:Below w3 w3 (w3.alloc (.cells (enc (⟨T,Q,V,U,R,⟨d,Y,X,I,F,H⟩⟩:CC)).toArray 52)):=zal;have L:W<=w3.heap.size:=znf D.o.2.2.1.size H3.o.2.2.1.size;have An:wr<=w3.heap.size:=H3.o.2.2.1.size;have Ao:(w3.alloc (.cells (enc (⟨T,Q,V,U,R,⟨d,Y,X,I,F,H⟩⟩:CC)).toArray 52)).heap.size=w3.heap.size+1:=by simp
    have q:∀g,(Value.slice va vl vc).ownBlock=some g->W.heap.size<=g/\g<wr.heap.size:=fun g B=>⟨D.o.2.1 g B,D.o.1.lt B⟩;have Ai:s.made.take (i+1)=s.made.take i++[c]:=by rw[List.take_add_one,D.o.2.2.2.2.1];rfl
    refine⟨i+1,by simp[Ag],by rw[O.o];omega,by rw[O.o],?_,?_,?_⟩
    .rw[Ai,List.map_append,List.map_singleton]
     have P1:Ptw (fun g=>W<=g/\¬(Value.slice va vl vc).ownBlock=some g) w3 (ks++[⟨T,Q,V,U,R,⟨d,Y,X,I,F,H⟩⟩]) ((s.made.take i).map ybh++[ybh c]):=H3.o.1.app (Ptw.one (x:=ybh c) ⟨D.o.2.2.2.1.kind,D.o.2.2.2.1.time,D.o.2.2.2.1.a,D.o.2.2.2.1.b,D.o.2.2.2.1.name,H3.o.2.1.mono (fun g B _=>⟨znf D.o.2.2.1.size B.1,fun e=>by have:=(q g e).2;omega⟩)⟩);have P2:Ptw (fun g=>(W<=g/\¬(Value.slice va vl vc).ownBlock=some g)/\g<w3) w3 (ks++[⟨T,Q,V,U,R,⟨d,Y,X,I,F,H⟩⟩]) ((s.made.take i).map ybh++[ybh c]):=P1.mono (fun g B hl=>⟨B,hl⟩);have P3:=(P2.keep (S:=fun _=>False) (zkb A4) (fun _ _ f=>f)).keep HF.o.2.1 (fun g B e=>B.1.2 e);refine XRow.of HF.o.1 (Ptw.mono P3 ?_);intro g B _;refine⟨B.1.1,fun e=> ?_⟩;rcases HF.o.2.2 g e with h|h
     .exact B.1.2 h
     .have h:w3.heap.size+1<=g:=by simpa using h
      have:=B.2;omega
    .intro g B
     rcases HF.o.2.2 g B with h|h
     .exact(q g h).1
     .have h:w3.heap.size+1<=g:=by simpa using h
      omega
    .have K34:=((zkb (S:=fun _=>False) A4).mono (fun _ _ f=>f.elim)).trans HF.o.2.1 (fun _ _ e=>e)
     exact(D.o.2.2.1.trans (H3.o.2.2.1.mono D.o.2.2.1.size)).trans (K34.below L (fun j hj e=>by have:=q j e;omega))
  .obtain rfl:i=n:=by omega
   have Ap:¬(i:Int)<i:=by omega
   have hT:s.made.take i=s.made:=zmj (by rw[O.o];exact znc _);rw[hT]at hX;have D:=zh3 (hX.mono (G:=fun g=>W<=g) (fun g h _=>h.1)) hO hB;clear hX hO hB P hT hi;go_wp2;go_ret;exact⟨_,rfl,zhd D.o⟩
def yoZ (Z:Nat->Prop)(W:World)(b:Nat)(v:MV)(p:Img)(s:MS)(e:Ending)(w':World):Prop:=∃r:Value,e= .returned r/\Hid (XRow (fun g=>W<=g) w' 52 r ((s.made.drop s.taken).map ybh)/\(∀g,r.ownBlock=some g->W.heap.size<=g)/\MX TT Z w' b v p {s with taken:=s.made.length}/\MK b v W v w')
theorem yjT
  {Z:Nat->Prop}(b:Nat)(v:MV)(p:Img)(s:MS)(W:World)(M:MX TT Z W b v p s)
  (hz:∀c∈s.made,szV c.v<=1073741824)(hl:s.made.length<=4294967296)(ht:s.taken<=s.made.length):
  Calls Tryz.prog 82 #[.pointer (some ⟨b,0,none⟩)] W (yoZ Z W b v p s):=by
 have Y:=zhd (yis b v p s W.drew (M.ext (znv _ _).drew) hz hl);have U:W.cell? ⟨b,22,none⟩=some (.int .i64 (s.taken:Int)):=M.cell (k:=22) rfl;have V:=zlt M.h;have Q:=zhd M;clear M;go_in;have d:=zhd ht;clear ht;go_upto_region 1 with(fail);go_region_law ((go_simp;go_at_call 49;refine Y.o.mono ?_;rintro e I ⟨r,rfl,G⟩;have H:=Q.o.ext ((znv W.heap.size W).drew.trans G.o.2.2);have R:I.cell? ⟨b,22,none⟩=some (.int .i64 (s.taken:Int)):=H.cell (k:=22) rfl;have f:=zlt H.h;obtain⟨l,i,J⟩:=G.o.1.slice;subst J;obtain⟨m,O,K⟩:=G.o.1.cells;obtain⟨q,C,B,D⟩:=yew ynH O (k:=s.taken) (by rw[K.1,zmd];exact d.o);have A:=(fun g hg=>G.o.2.1 g (D g hg));simp only[zmd]at C B A;have E:=zh4 H B A K;clear H O K B D A))
 all_goals
  obtain⟨X,cap,F⟩:∃a cap,v.ms= .slice a s.made.length cap:=E.o.1.mds.slice;have T:I.cell? ⟨b,21,none⟩=some (.slice X s.made.length cap):=by rw[<-F];exact E.o.1.cell (k:=21) rfl
  have n:∀o,I.frozen? ⟨b,o,none⟩=false:=fun o=>E.o.1.frozen o;have P:=zhd (E.o.1.scalar 22 (.int .i64 (s.made.length:Int)) {s with taken:=s.made.length} rfl rfl rfl rfl rfl rfl rfl rfl);clear F C;go_wp2;go_ret;have L:=E.o.2.2.2.drop s.taken;rw[<-List.map_drop]at L;have N:∀g,W.heap.size<=g->¬g=b:=fun g hg e=>by have:=zlt Q.o.h;omega
  refine⟨_,rfl,zhd ⟨XRow.of (E.o.2.1.keep (Keeps.setCell (S:=fun j=>j=b) (p:=⟨b,22,none⟩) (Keeps.refl _ _) (.inl rfl) _) (fun g hg e=>N g (E.o.2.2.1 g hg) e)) (L.keep (Keeps.setCell (S:=fun j=>j=b) (p:=⟨b,22,none⟩) (Keeps.refl _ _) (.inl rfl) _) (fun g hg e=>N g hg e)),fun g hg=>E.o.2.2.1 g hg,P.o.1,(MK.ext ((znv W.heap.size W).drew.trans G.o.2.2)).trans P.o.2⟩⟩
theorem ylm {x:Val}(h1:x.all B64)(h2:x.all (fun _ _ s=>s.size<=1100)):x.wf:=yn8 h1 h2
theorem ypT {c:Cm}(h:yaX c=0):checkL c.v=0:=by
 unfold yaX at h;split at h
 .cases h
 .split at h
  .cases h
  .split at h
   .cases h
   .split at h
    .cases h
    .exact h
theorem ymA {p:Img}{fa:Fa}{s:MS}(S:St p fa s):∀c∈s.made,szV c.v<=1073741824:=fun c hc=>by
 have h:=S.rk.vs.mds c hc;have:=ycq (x:=c.v) ⟨ypT h.1,h.2⟩;omega
end Go.Proofs.YtpagmlndgblhhaaGreatDoor
