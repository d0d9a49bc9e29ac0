/- Parts of the proof: what the functions and the plain laws give that later parts lean on. Conditions: none beyond those that each theorem names. -/
import Derived.WalkKit
import Derived.WalkSpells
import Derived.WalkLawsBesides
import Derived.Lib.Hide
import Derived.Deep.QuietTactic
import Derived.BigQuiet
import Derived.StillTailTactics
import Derived.Deep.RegionHeld3
import Derived.Deep.RegionLaw
import Derived.Deep.RegionWith
import Derived.Deep.DeepCutAuto
import Derived.Deep.LoopGhost
import Derived.Deep.DeepFit
import Derived.Maps.Own
import Derived.Maps.OwnOps
import Derived.Maps.OwnSet
import Derived.DeepKeys4
import Derived.Test.YtakljipkaoahnaaGreatDoorB24
set_option maxRecDepth 100000
set_option maxHeartbeats 8000000
namespace Go.Own
open Go.RowKit
open Cells (sz enc)
open Go.Maps
namespace MapTy
variable{κ ν:Type} [DecidableEq κ]
theorem get_append (m:List (κ×ν))(k j:κ)(v:ν)(h:get m k=none):get (m++[(k,v)]) j=if j=k then some v else get m j:=by
 induction m with
 |nil=>simp[get,eq_comm]
 |cons p r ih=>
  obtain⟨a,b⟩:=p
  unfold get at h
  by_cases hk:a=k
  ·rw[if_pos hk]at h;cases h
  ·rw[if_neg hk]at h
   simp only[List.cons_append,get]
   by_cases hj:a=j
   ·subst hj;simp[hk]
   ·rw[if_neg hj,if_neg hj];exact ih h
theorem get_map (m:List (κ×ν))(k j:κ)(v:ν):get (m.map (fun p=>if p.1=k then(k,v)else p)) j=if j=k then(if(get m k).isSome then some v else none)else get m j:=by
 induction m with
 |nil=>simp[get]
 |cons p r ih=>
  obtain⟨a,b⟩:=p
  simp only[List.map_cons]
  by_cases hk:a=k
  ·subst hk
   by_cases hj:j=a
   ·subst hj;simp[get]
   ·have hj':a≠j:=fun e=>hj e.symm
    simp only[if_true,get,hj',if_false,hj]
    rw[ih,if_neg hj]
  ·simp only[hk,if_false,get]
   by_cases hj:a=j
   ·subst hj;simp[hk]
   ·rw[if_neg hj,if_neg hj];exact ih
theorem get_upd (m:List (κ×ν))(k:κ)(v:ν)(j:κ):get (upd m k v) j=if j=k then some v else get m j:=by
 unfold upd
 split
 ·rename_i h
  rw[get_map,h]
  simp
 ·rename_i h
  exact get_append m k j v (by simpa using h)
end MapTy
open MapTy
end Go.Own
namespace Go.Own
open Go.RowKit Go.Own.MapTy
open Cells (sz enc)
theorem IM.klaw {ν:Type}{ve:ν→Value}{P:Program}{k:TypeId}(hd:P.underlying k=some (.int .i64))
  (check:∀(W:World) (em:Bool) (x:Int),(Instr.checkKey em 10000 k (.int .i64 x)).run P W= .ok () W):KLaw (IM ν ve) P k:=
 KLaw.of_now hd check (fun x y=>by simp[IM,Instr.sameNow];rfl) (fun x=>by simp[IM,Instr.sameBits])
end Go.Own
namespace Go.Va
open Go.Own Go.RowKit
open Go.Proofs.YtakljipkaoahnaaGreatDoor
theorem ntL_app:∀(l r:List Cm) (n:Nt),ntL (l++r) n=ntL r (ntL l n)
 |[],_,_=>rfl
 |c::l,r,n=>by rw[List.cons_append,ntL,ntL];exact ntL_app l r _
theorem okL_app:∀(l r:List Cm) (n:Nt),okL l n→okL r (ntL l n)→okL (l++r) n
 |[],_,_,_,h=>h
 |c::l,r,n,h1,h2=>by rw[List.cons_append,okL];exact⟨h1.1,okL_app l r _ h1.2 h2⟩
theorem ntL_one (l:List Cm)(c:Cm)(n:Nt):ntL (l++[c]) n=nt1 (ntL l n) c:=by rw[ntL_app];rfl
theorem cs_le:∀(l:List Cm) (n:Nt),okL l n→(∀k∈n.cs,k≤n.t)→∀k∈(ntL l n).cs,k≤(ntL l n).t
 |[],_,_,h=>h
 |c::r,n,ho,h=>by
  rw[ntL]
  refine cs_le r _ ho.2 ?_
  have h1:=ho.1
  unfold ok1 at h1
  unfold nt1
  by_cases e1:c.kind=1
  ·rw[if_pos e1]
   exact fun k hk=>by have:=h k hk;show k≤n.t+1;omega
  ·rw[if_neg e1]at h1⊢
   by_cases e3:c.kind=3
   ·rw[if_pos e3];exact h
   ·rw[if_neg e3]at h1⊢
    by_cases e2:c.kind=2
    ·rw[if_pos e2]at h1⊢
     intro k hk
     rcases List.mem_cons.1 hk with rfl|hk
     ·exact h1.2.1
     ·exact h k hk
    ·rw[if_neg e2];exact h
theorem Nm.of {s s':MS}(N:Nm s)(h1:s'.made=s.made)(h2:s'.timers.next=s.timers.next)(h3:s'.acts.next=s.acts.next)(h4:(s'.timers.list.map (·.id)).Sublist (s.timers.list.map (·.id))):Nm s':=by
 refine⟨by rw[h1];exact N.ok,by rw[h1,h2];exact N.t,by rw[h1,h3];exact N.a,h4.nodup N.nodup,fun x hx=> ?_⟩
 have hm:=h4.subset (List.mem_map.2 ⟨x,hx,rfl⟩)
 obtain⟨y,hy,he⟩:=List.mem_map.1 hm
 have:=N.ids y hy
 rw[h1,h2,←he]
 exact this
theorem Nm.same {s s':MS}(N:Nm s)(h1:s'.made=s.made)(h2:s'.timers=s.timers)(h3:s'.acts.next=s.acts.next):Nm s':=N.of h1 (by rw[h2]) h3 (by rw[h2];exact List.Sublist.refl _)
theorem Nm.erase {s s':MS}(N:Nm s)(i:Nat)(h1:s'.made=s.made)(h2:s'.timers=⟨s.timers.list.eraseIdx i,s.timers.next⟩)(h3:s'.acts.next=s.acts.next):Nm s':=N.of h1 (by rw[h2]) h3 (by rw[h2];exact(List.eraseIdx_sublist _ _).map _)
theorem Nm.want {s:MS}(N:Nm s)(c:Cm)(hk:4≤c.kind):Nm (s.want c):=by
 have e:∀(n:Nt) (c':Cm),c'.kind=c.kind→nt1 n c'=n:=fun n c' h=>by
  unfold nt1
  rw[if_neg (by omega),if_neg (by omega),if_neg (by omega)]
 have hm:ntL (s.want c).made nt0=ntL s.made nt0:=by
  show ntL (s.made++[_]) nt0=_
  rw[ntL_one]
  exact e _ _ rfl
 refine⟨?_,by rw[hm];exact N.t,by rw[hm];exact N.a,N.nodup,fun x hx=>by rw[hm];exact N.ids x hx⟩
 refine okL_app _ _ _ N.ok ⟨?_,trivial⟩
 unfold ok1
 have hk':4≤({c with time:=s.now,v:=cloneV c.v}:Cm).kind:=hk
 rw[if_neg (by omega),if_neg (by omega),if_neg (by omega)]
 trivial
theorem Nm.fall {s:MS}(N:Nm s)(why:ByteArray):Nm (s.fall why):=Nm.want (s:={s with trap:=why}) (N.same rfl rfl rfl) _ (by show(4:Int)≤5;decide)
theorem Nm.put {s:MS}(N:Nm s)(v:Val):Nm (s.put v):=by
 unfold MS.put
 split
 ·exact N.fall _
 ·exact N.same rfl rfl rfl
theorem Nm.arith {s:MS}(N:Nm s)(op:Int)(a b:Val):Nm (s.arith op a b):=by
 unfold MS.arith
 split
 ·exact N.fall _
 ·exact N.same rfl rfl rfl
theorem nm_ite {a b:MS}{c:Prop}[Decidable c](ha:Nm a)(hb:Nm b):Nm (if c then a else b):=by
 split
 ·exact ha
 ·exact hb
theorem Nm.push {s:MS}(N:Nm s)(v:Val):Nm (s.push v):=N.same rfl rfl rfl
theorem Nm.pop {s:MS}(N:Nm s):Nm s.pop:=N.same rfl rfl rfl
theorem Nm.two {s:MS}(N:Nm s)(op:Int)(a b:Val):Nm (s.two op a b):=by
 unfold MS.two
 exact nm_ite (N.push _) (nm_ite (N.push _) (nm_ite (nm_ite (N.fall _) (N.push _)) (nm_ite (nm_ite (N.put _) (nm_ite (N.put _) (N.fall _))) (N.arith _ _ _))))
theorem Nm.reckon {s:MS}(N:Nm s)(op:Int)(k:Nat):Nm (s.reckon op k):=by
 unfold MS.reckon
 exact nm_ite (Nm.put (s:={s with stk:=s.stk.take (s.stk.length - k)}) (N.same rfl rfl rfl) _) (nm_ite (N.pop.push _) (nm_ite (nm_ite (N.pop.push _) (nm_ite (N.pop.push _) (N.pop.fall _))) (N.pop.pop.two _ _ _)))
theorem Nm.begin_ {s:MS}(N:Nm s)(op:Int)(name:ByteArray):Nm (s.begin_ op name):=by
 unfold MS.begin_
 dsimp only
 refine nm_ite ?_ (nm_ite (N.pop.fall _) (nm_ite (N.pop.fall _) (nm_ite ?_ ?_)))
 ·split
  ·exact N.pop.fall _
  ·rename_i i hf
   have hf2:findT s.top.num s.timers.list=some i:=by
    split at hf
    ·exact hf
    ·cases hf
   obtain⟨x,hx,hid⟩:=Go.Va.findT_some hf2
   rw[hx]
   dsimp only[Option.getD]
   cases x.over with
   |true=>exact Nm.erase (s:=s) N i rfl rfl rfl
   |false=>
    have hi:=N.ids x (zmg hx)
    have hl:i<s.timers.list.length:=(zge hx).1
    have hE:∀y∈s.timers.list.eraseIdx i,y.id≠x.id:=by
     intro y hy he
     obtain⟨j,hji,hj⟩:=List.mem_eraseIdx_iff_getElem?.1 hy
     have h1:(s.timers.list.map (·.id))[i]? =some x.id:=by rw[List.getElem?_map,hx];rfl
     have h2:(s.timers.list.map (·.id))[j]? =some x.id:=by rw[List.getElem?_map,hj,←he];rfl
     exact hji ((List.getElem?_inj (by rw[List.length_map];exact(zge hj).1) N.nodup).1 (h2.trans h1.symm))
    refine⟨?_,?_,?_,?_,fun y hy=> ?_⟩
    ·refine okL_app _ _ _ N.ok ⟨?_,trivial⟩
     show 1≤s.top.num∧s.top.num≤(ntL s.made nt0).t∧s.top.num∉ (ntL s.made nt0).cs
     rw[N.t,←hid]
     exact hi
    ·show(ntL (s.made++[⟨2,s.now,s.top.num,0,⟨#[]⟩,cloneV vNil0⟩]) nt0).t=s.timers.next
     rw[ntL_one]
     exact N.t
    ·show(ntL (s.made++[⟨2,s.now,s.top.num,0,⟨#[]⟩,cloneV vNil0⟩]) nt0).a=s.acts.next
     rw[ntL_one]
     exact N.a
    ·exact((List.eraseIdx_sublist _ _).map _).nodup N.nodup
    ·have hy:y∈s.timers.list.eraseIdx i:=hy
     have h3:=N.ids y (List.mem_of_mem_eraseIdx hy)
     refine⟨h3.1,h3.2.1,?_⟩
     show y.id∉ (ntL (s.made++[⟨2,s.now,s.top.num,0,⟨#[]⟩,cloneV vNil0⟩]) nt0).cs
     rw[ntL_one]
     intro h
     have h:y.id∈s.top.num::(ntL s.made nt0).cs:=h
     rcases List.mem_cons.1 h with h|h
     ·exact hE y hy (by rw[h,hid])
     ·exact h3.2.2 h
 ·refine⟨?_,?_,?_,N.nodup,fun y hy=> ?_⟩
  ·refine okL_app _ _ _ N.ok ⟨?_,trivial⟩
   show s.acts.next+1=(ntL s.made nt0).a+1
   rw[N.a]
  ·show(ntL (s.made++[⟨3,s.now,s.acts.next+1,s.top.num,name,cloneV s.pop.top⟩]) nt0).t=s.timers.next
   rw[ntL_one]
   exact N.t
  ·show(ntL (s.made++[⟨3,s.now,s.acts.next+1,s.top.num,name,cloneV s.pop.top⟩]) nt0).a=s.acts.next+1
   rw[ntL_one]
   show(ntL s.made nt0).a+1=_
   rw[N.a]
  ·have h3:=N.ids y hy
   refine⟨h3.1,h3.2.1,?_⟩
   show y.id∉ (ntL (s.made++[⟨3,s.now,s.acts.next+1,s.top.num,name,cloneV s.pop.top⟩]) nt0).cs
   rw[ntL_one]
   exact h3.2.2
 ·have hcs:s.timers.next+1∉ (ntL s.made nt0).cs:=fun h=>by
   have:=cs_le s.made nt0 N.ok (fun k hk=>by cases hk) _ h
   rw[N.t]at this
   omega
  refine⟨?_,?_,?_,?_,fun y hy=> ?_⟩
  ·refine okL_app _ _ _ N.ok ⟨?_,trivial⟩
   show s.timers.next+1=(ntL s.made nt0).t+1
   rw[N.t]
  ·show(ntL (s.made++[⟨1,s.now,s.timers.next+1,s.top.num,⟨#[]⟩,cloneV vNil0⟩]) nt0).t=s.timers.next+1
   rw[ntL_one]
   show(ntL s.made nt0).t+1=_
   rw[N.t]
  ·show(ntL (s.made++[⟨1,s.now,s.timers.next+1,s.top.num,⟨#[]⟩,cloneV vNil0⟩]) nt0).a=s.acts.next
   rw[ntL_one]
   exact N.a
  ·show((s.timers.list++[_]).map Th.id).Nodup
   rw[List.map_append]
   refine List.nodup_append.2 ⟨N.nodup,by simp,fun x hx y hy e=> ?_⟩
   obtain⟨z,hz,hzi⟩:=List.mem_map.1 hx
   have h3:=N.ids z hz
   have hy:y=s.timers.next+1:=by simpa using hy
   omega
  ·show 1≤y.id∧y.id≤s.timers.next+1∧y.id∉ (ntL (s.made++[⟨1,s.now,s.timers.next+1,s.top.num,⟨#[]⟩,cloneV vNil0⟩]) nt0).cs
   rw[ntL_one]
   show 1≤y.id∧y.id≤s.timers.next+1∧y.id∉ (ntL s.made nt0).cs
   rcases List.mem_append.1 hy with hy|hy
   ·have h3:=N.ids y hy
    exact⟨h3.1,by omega,h3.2.2⟩
   ·rw[List.mem_singleton.1 hy]
    refine⟨?_,Int.le_refl _,hcs⟩
    show 1≤s.timers.next+1
    have:=N.t
    have h0:∀(l:List Cm) (n:Nt),0≤n.t→0≤(ntL l n).t:=fun l=>by
     induction l with
     |nil=>exact fun n h=>h
     |cons c r ih=>
      intro n h
      rw[ntL]
      refine ih _ ?_
      unfold nt1
      repeat' split
      all_goals first|exact h|(show 0≤n.t+1;omega)
    have:=h0 s.made nt0 (Int.le_refl _)
    omega
theorem Nm.wait {s s':MS}(N:Nm s){op:Int}{name:ByteArray}(h:s.wait op name=some s'):Nm s':=by
 unfold MS.wait at h
 split at h
 ·cases hf:findLt name s.letters with
  |none=>rw[hf]at h;cases h
  |some i=>rw[hf]at h;cases h;exact N.same rfl rfl rfl
 ·dsimp only at h
  split at h
  ·cases h;exact N.fall _
  ·split at h
   ·cases h;exact N.same rfl rfl rfl
   ·rename_i i _ _ _
    cases hov:((if op=21 then s.acts.list else s.timers.list)[i]?.getD ⟨0,false,vNil0,0⟩).over with
    |false=>rw[hov]at h;cases h
    |true=>
     rw[hov]at h
     simp only[Bool.not_true,cond_false,Option.some.injEq]at h
     rw[←h]
     by_cases h21:op=21
     ·rw[if_pos h21]
      by_cases h18:op=18
      ·rw[if_pos h18];exact N.same rfl rfl rfl
      ·rw[if_neg h18,if_pos h21];exact N.same rfl rfl rfl
     ·rw[if_neg h21,if_neg h21]
      by_cases h18:op=18
      ·rw[if_pos h18];exact N.erase i rfl rfl rfl
      ·rw[if_neg h18,if_neg h21];exact N.erase i rfl rfl rfl
theorem Nm.end_ {s:MS}(N:Nm s)(op:Int)(name:ByteArray):Nm (s.end_ op name):=by
 unfold MS.end_
 exact nm_ite (N.pop.want _ (by show(4:Int)≤4;decide)) (nm_ite (N.pop.want _ (by show(4:Int)≤6;decide)) (N.want _ (by show(4:Int)≤5;decide)))
theorem Nm.go {s:MS}(N:Nm s)(p:Img)(op:Int)(k:Nat):Nm (s.go p op k):=by
 unfold MS.go
 dsimp only
 refine nm_ite (N.push _) (nm_ite N.pop (nm_ite (N.push _) (nm_ite (N.same rfl rfl rfl) (nm_ite (N.push _) (nm_ite (N.same rfl rfl rfl) (nm_ite (N.push _) (nm_ite (N.push _) (nm_ite (N.push _) (nm_ite ?_ (nm_ite (N.begin_ _ _) (nm_ite N (N.reckon _ _))))))))))))
 cases findLt (p.names[k]?.getD ⟨#[]⟩) s.letters<;>exact N.same rfl rfl rfl
theorem Nm.step {p:Img}{s s':MS}(N:Nm s)(h:stepM p s=some s'):Nm s':=by
 unfold stepM at h
 dsimp only at h
 cases hb:(ofL (p.code[s.at_]?.getD ⟨0,0⟩).op).1.blocks with
 |true=>rw[hb]at h;exact N.wait h
 |false=>
  rw[hb]at h
  simp only[cond_false]at h
  cases he:(ofL (p.code[s.at_]?.getD ⟨0,0⟩).op).1.ends with
  |true=>rw[he]at h;cases h;exact N.end_ _ _
  |false=>
   rw[he]at h
   simp only[cond_false]at h
   cases hf:(ofL (p.code[s.at_]?.getD ⟨0,0⟩).op).1.flow with
   |true=>
    rw[hf]at h
    cases h
    cases((p.code[s.at_]?.getD ⟨0,0⟩).op==11)
    ·cases trueV s.top<;>exact N.same rfl rfl rfl
    ·exact N.same rfl rfl rfl
   |false=>
    rw[hf]at h
    cases h
    exact Nm.go (s:=s.nxt) (N.same rfl rfl rfl) _ _ _
theorem Nm.run {p:Img}:∀(f:Nat) (s:MS),Nm s→Nm (runM p f s)
 |0,_,N=>N
 |f+1,s,N=>by
  by_cases ho:s.over=true
  ·have e:runM p (f+1) s=s:=by rw[runM,ho];rfl
   rw[e]
   exact N
  ·have ho:s.over=false:=by simpa using ho
   cases hs:stepM p s with
   |none=>
    have e:runM p (f+1) s=s:=by rw[runM,ho,hs];rfl
    rw[e]
    exact N
   |some s'=>
    have e:runM p (f+1) s=runM p f {s' with steps:=s'.steps+1}:=by rw[runM,ho,hs];rfl
    rw[e]
    exact Nm.run f _ ((N.step hs).same rfl rfl rfl)
theorem ids_end (id how:Int)(v:Val):∀l:List Th,(endT id how v l).map (·.id)=l.map (·.id)
 |[]=>rfl
 |x::r=>by
  rw[endT]
  split
  ·cases x.over<;>rfl
  ·rw[List.map_cons,List.map_cons,ids_end id how v r]
theorem Nm.hear {s:MS}(N:Nm s)(e:Ev):Nm (hear s e):=by
 unfold Go.Va.hear
 exact nm_ite (N.same rfl rfl rfl) (nm_ite (N.of rfl rfl rfl (by show((endT e.a 1 vNil0 s.timers.list).map (·.id)).Sublist _;rw[ids_end];exact List.Sublist.refl _)) (nm_ite (N.same rfl rfl rfl) (nm_ite (N.same rfl rfl rfl) (nm_ite (N.same rfl rfl rfl) (nm_ite (N.same rfl rfl rfl) (nm_ite (N.same rfl rfl rfl) (N.same rfl rfl rfl)))))))
theorem Nm.apply {p:Img}{s:MS}(N:Nm s)(e:Ev):Nm (applyM p s e).2:=by
 unfold applyM
 split
 ·exact N
 ·split
  ·exact N
  ·split
   ·exact N
   ·exact Nm.run _ _ (Nm.hear (s:={s with now:=e.time,steps:=0,events:=s.events+1}) (N.same rfl rfl rfl) e)
theorem nm0 (p:Img):Nm (ms0 p):=⟨trivial,rfl,rfl,List.nodup_nil,fun x hx=>by cases hx⟩
end Go.Va
namespace Go.Va
open Go.Own Go.Own.MapTy Go.RowKit
open Go.Proofs.YtakljipkaoahnaaGreatDoor
theorem get_mOf:∀(cs:List Int) (x:Int),get (mOf cs) x=if x∈cs then some true else none
 |[],x=>rfl
 |c::r,x=>by
  rw[mOf,get_upd,get_mOf r]
  by_cases h:x=c
  ·rw[if_pos h,if_pos (by rw[h];exact List.mem_cons_self ..)]
  ·rw[if_neg h]
   by_cases h2:x∈r
   ·rw[if_pos h2,if_pos (List.mem_cons_of_mem _ h2)]
   ·rw[if_neg h2,if_neg (fun e=>(List.mem_cons.1 e).elim h h2)]
theorem okL_clone:∀(l:List Cm) (n:Nt),okL l n→okL (l.map cloneC) n
 |[],_,h=>h
 |_::r,_,h=>⟨h.1,okL_clone r _ h.2⟩
theorem okL_at:∀(l:List Cm) (n:Nt) (k:Nat) (c:Cm),okL l n→l[k]? =some c→ok1 (ntL (l.take k) n) c
 |x::r,n,0,c,h,hc=>by cases hc;exact h.1
 |x::r,n,k+1,c,h,hc=>okL_at r _ k c h.2 (by simpa using hc)
theorem ntL_take {l:List Cm}{k:Nat}{c:Cm}(n:Nt)(h:l[k]? =some c):ntL (l.take (k+1)) n=nt1 (ntL (l.take k) n) c:=by
 rw[List.take_add_one,h]
 exact ntL_one _ _ _
theorem nt1_bd (n:Nt)(c:Cm)(h:0≤n.t∧0≤n.a):0≤(nt1 n c).t∧0≤(nt1 n c).a∧(nt1 n c).t≤n.t+1∧(nt1 n c).a≤n.a+1:=by
 unfold nt1
 split
 ·exact⟨by show 0≤n.t+1;omega,h.2,Int.le_refl _,by show n.a≤n.a+1;omega⟩
 ·split
  ·exact⟨h.1,by show 0≤n.a+1;omega,by show n.t≤n.t+1;omega,Int.le_refl _⟩
  ·split
   ·exact⟨h.1,h.2,by show n.t≤n.t+1;omega,by show n.a≤n.a+1;omega⟩
   ·exact⟨h.1,h.2,by omega,by omega⟩
theorem ntL_bd:∀(l:List Cm) (n:Nt),0≤n.t∧0≤n.a→0≤(ntL l n).t∧0≤(ntL l n).a∧(ntL l n).t≤n.t+l.length∧(ntL l n).a≤n.a+l.length
 |[],n,h=>⟨h.1,h.2,by simp[ntL],by simp[ntL]⟩
 |c::r,n,h=>by
  have h1:=nt1_bd n c h
  have h2:=ntL_bd r (nt1 n c) ⟨h1.1,h1.2.1⟩
  rw[ntL,List.length_cons]
  omega
end Go.Va
namespace Go.Proofs.YtakljipkaoahnaaGreatDoor
open Go.RowKit Go.Own Go.Own.MapTy Go.Va Go.Sort
open Go.Own.Cells (sz enc)
theorem checkN (n:Nat)(em:Bool)(W:World)(x:Int):(Instr.checkKey em (n+1) 2 (.int .i64 x)).run Tryz.prog W= .ok () W:=by simp[Instr.checkKey,go_sem]
theorem nmlaw:KLaw NM Tryz.prog 2:=IM.klaw Tryz.underlying2 (fun W em x=>checkN 9999 em W x)
theorem nm_look {w:World}{b:Nat}{cs:List Int}(h:MapAt NM w b (mOf cs))(r:Int)(c:Bool)(hc:decide (r∈cs)=c)(W:World)(hW:Same w b W):(Instr.lookup 64 (.map (some b)) (.int .i64 r) false).run Tryz.prog W= .ok (.bool c) W:=by
 have:=h.lookS nmlaw Tryz.underlying64 (z:=.bool false) (fun W=>by kernel_rfl) r false W hW
 subst hc
 rw[get_mOf]at this
 by_cases hr:r∈cs
 ·rw[if_pos hr]at this;rw[decide_eq_true hr];exact this
 ·rw[if_neg hr]at this;rw[decide_eq_false hr];exact this
theorem map_below {w w':World}{b:Nat}{m:List (Int×Bool)}(h:MapAt NM w b m)(B:Below w.heap.size w w'):MapAt NM w' b m:=by
 obtain⟨es,ck,h1,h2,h3⟩:=h
 exact⟨es,ck,(B.block _ (zlt h1)).trans h1,h2,h3⟩
theorem numbers_walk {N:Nat}(i:IC)(p:Img)(W:World)(G:Gl Tryz.prog N W)(H:IAt (fun j=>j<W.heap.size) W i p)(hb64:Val.all.allL B64 p.consts)(ea:Option Addr)(en ec:Nat)(l:List Ev)(E:XRd (fun j=>j<W.heap.size) W (.slice ea en ec) l)(he:∀e∈l,e.v.all B64):
  Calls Tryz.prog 5 #[.agg #[.slice i.ca i.cn i.cc,.slice i.ka i.kn i.kc,.slice i.na i.nn i.nc,.int .i64 i.pl],.slice ea en ec] W fun en w'=>en= .returned (.bool true)∧Below W.heap.size W w':=by
 have hen:en=l.length:=by obtain⟨a,c,h⟩:=E.slice;cases h;rfl
 have HG:=zhd G
 have RU:=zhd (fun W' (K:Below W.heap.size W W')=>runs_true W' (G.below K))
 have SM:=zhd (fun W' (K:Below W.heap.size W W')=>small14_any _ W' i p (H.below K) _ ea en ec l (E.below K))
 have HH:=zh5 H E hb64 he hen
 have HL:=zhd H.lens.1
 clear G H E hb64 he hen
 obtain⟨w0,hw0⟩:∃w0,w0=W.alloc (.cells #[.slice i.ca i.cn i.cc,.slice i.ka i.kn i.kc,.slice i.na i.nn i.nc,.int .i64 i.pl] 27):=⟨_,rfl⟩
 have B0:=zba hw0
 have X0:BoxI w0 W.heap.size i:=by rw[hw0];exact heap_alloc_new _ _
 have H0:=zh2 B0 X0
 clear B0 X0
 go_enter Tryz.func5,Tryz.ntmps5
 go_wp2_with fail
 rw[←hw0]
 clear hw0
 refine(RU.out w0 H0.out.1).mono ?_
 rintro e w1 ⟨rfl,hB1⟩
 have B1:=H0.out.1.trans (hB1.mono H0.out.1.size)
 have X1:=H0.out.2.below hB1
 obtain⟨q0,q1,q2,q3,ql⟩:=X1.all5
 have H1:=zh2 B1 X1
 clear hB1 B1 X1
 go_wp2_with fail
 refine(SM.out w1 H1.out.1).mono ?_
 rintro e w2 ⟨r,rfl,H2⟩
 have B2:=H1.out.1.trans (H2.out.2.mono H1.out.1.size)
 have X2:=H1.out.2.below H2.out.2
 obtain⟨q0,q1,q2,q3,ql⟩:=X2.all5
 have HB2:=zh2 B2 X2
 clear B2 X2
 cases r with
 |false=>
  go_wp2_with fail
  go_ret
  exact⟨rfl,HB2.out.1⟩
 |true=>
  have SF:=H2.out.1 rfl
  have hwf:∀x∈p.consts,x.wf:=fun x hx=>wf_ev (Val.allL_iff.1 HH.out.2.2.1 x hx) (SF.consts x hx)
  have hewf:∀e∈l,e.v.wf:=fun e h=>wf_ev (HH.out.2.2.2.1 e h) (SF.evs e h)
  obtain⟨fa,at_,er,hck⟩:∃fa a e,checkG p=(fa,a,e):=⟨_,_,_,rfl⟩
  have NW:=zhd (new_any _ w2 i p (HH.out.1.below HB2.out.1) hwf _ hck)
  have HF:=zh4 SF hwf hewf hck
  clear SF hwf hewf hck
  go_wp2_with fail
  refine NW.out.mono ?_
  rintro e w5 (⟨h,rfl,H5⟩|⟨h0,b,v0,rfl,H5⟩)
  ·have HE:=zhd (HB2.out.1.trans (H5.out.mono HB2.out.1.size))
   clear h H5 NW q0 q1 q2 q3 ql
   go_wp2_with fail
   go_ret
   exact⟨rfl,HE.out⟩
  ·obtain rfl:er=0:=h0
   have K0:=((checkG_law HF.out.2.2.2).2 rfl).2
   have hok:=imgL_ok K0.img
   have hckc:checkG (cloneI p)=(fa,at_,0):=(checkG_clone p).trans HF.out.2.2.2
   have KC:=((checkG_law hckc).2 rfl).2
   have hsp:fa.span≤(cloneI p).code.length+1:=span_le hckc
   have PK:Pk (cloneI p):=⟨fun x hx=>by
     obtain⟨y,hy,rfl⟩:=List.mem_map.1 hx
     exact ok_clone ⟨consts_ok hok.2.2.2.2.2.2.1 y hy,HF.out.2.1 y hy⟩,fun x hx=>names_ok hok.2.2.2.2.2.2.2.1 x hx⟩
   have S0:St (cloneI p) fa (ms0 (cloneI p)):=St.zero KC hok.2.2.2.2.1
   have B5:=HB2.out.1.trans (H5.out.2.2.mono HB2.out.1.size)
   have HK:=zh4 KC PK hsp S0
   have HB5:=zhd B5
   clear q0 q1 q2 q3 ql K0 hok hckc KC hsp PK S0 B5 NW
   go_wp2_with fail
   go_loopg [29] en (fun gk v29 wr=>NvRel (cloneI p) fa w2.heap.size b en v0 w5 gk v29 wr)
   case atStart=>exact⟨0,v0,_,rfl,Nat.zero_le _,rfl,⟨H5.out.1,MK.refl _ _ _,HK.out.2.2.2,Nat.le_refl _⟩,nm0 _⟩
   case round=>
    obtain⟨j,v,s,rfl,hj,hgk,L,NS⟩:=hrel
    have HNS:=zhd NS
    clear NS
    have hmo:∀q,MO v0 b q→w2.heap.size≤q:=H5.out.2.1
    have BW:Below w2.heap.size w5 wr:=L.kp.keeps.below H5.out.2.2.size (fun q hq e=>by have:=hmo q e;omega)
    have BWW:Below W.heap.size W wr:=HB5.out.trans (BW.mono HB2.out.1.size)
    have hmv:∀q,q<w2.heap.size→¬MO v b q:=fun q hq e=>by
     rcases L.kp.own q e with h|h
     ·have:=hmo q h;omega
     ·have:=H5.out.2.2.size;omega
    by_cases hjn:j<en
    ·
     obtain⟨ev,hev⟩:=elem_at (l:=l) (k:=j) (by have:=HH.out.2.2.2.2;omega)
     obtain⟨g,off,⟨z0,z1,z2,z3,z4,z5,z6,⟨zk,zn,zs,za,zl,zc⟩⟩,rfl,hFg,hg,hrel,hcs⟩:=HH.out.2.1.at_ hev
     have hrel2:EvF (fun j=>j<W.heap.size) W ⟨z0,z1,z2,z3,z4,z5,z6,⟨zk,zn,zs,za,zl,zc⟩⟩ ev:=hrel
     obtain⟨e0,e1,e2,e3,e4,e5,e6,ex⟩:=ev
     obtain⟨d0,d1,d2,d3,d4,d5,d6,dv⟩:=hrel2
     dsimp only at d0 d1 d2 d3 d4 d5 d6 dv
     subst d0 d1 d2 d3 d4 d5 d6
     have y0:W.cell? ⟨g,off+j*11,none⟩=some (.int .i64 z0):=hcs 0 _ rfl
     have y1:W.cell? ⟨g,off+j*11+1,none⟩=some (.int .i64 z1):=hcs 1 _ rfl
     have y2:W.cell? ⟨g,off+j*11+2,none⟩=some (.int .i64 z2):=hcs 2 _ rfl
     have y3:W.cell? ⟨g,off+j*11+3,none⟩=some (.int .i64 z3):=hcs 3 _ rfl
     have y4:W.cell? ⟨g,off+j*11+4,none⟩=some (.int .i64 z4):=hcs 4 _ rfl
     have y5:W.cell? ⟨g,off+j*11+5,none⟩=some (.string z5):=hcs 5 _ rfl
     have y6:W.cell? ⟨g,off+j*11+6,none⟩=some (.string z6):=hcs 6 _ rfl
     have y7:W.cell? ⟨g,off+j*11+7,none⟩=some (.int .i64 zk):=hcs 7 _ rfl
     have y8:W.cell? ⟨g,off+j*11+8,none⟩=some (.int .i64 zn):=hcs 8 _ rfl
     have y9:W.cell? ⟨g,off+j*11+9,none⟩=some (.string zs):=hcs 9 _ rfl
     have y10:W.cell? ⟨g,off+j*11+10,none⟩=some (.slice za zl zc):=hcs 10 _ rfl
     rw[←BWW.cell (p:=⟨g,_,none⟩) hg]at y0 y1 y2 y3 y4 y5 y6 y7 y8 y9 y10
     have hgl:g<wr.heap.size:=Nat.lt_of_lt_of_le hg BWW.size
     have hjn':(j:Int)<en:=by omega
     have hen:=HF.out.1.len
     have hel:=HH.out.2.2.2.2
     have HWJ:=zhd (show wrap64 ((j:Int)+1)=(j:Int)+1 by unfold wrap64;omega)
     have hexw0:=HF.out.2.2.1 _ (zmg hev)
     have hexw:ex.wf:=hexw0
     clear hexw0
     obtain⟨st2,hst2⟩:∃st2,applyM (cloneI p) s ⟨z0,z1,z2,z3,z4,z5,z6,ex⟩=st2:=⟨_,rfl⟩
     obtain⟨SA,hev2⟩:=L.st.apply HK.out.1 HK.out.2.1 HK.out.2.2.1 ⟨z0,z1,z2,z3,z4,z5,z6,ex⟩ hexw (by have:=L.ev;omega)
     rw[hst2]at SA hev2
     have NS2:=HNS.out.apply ⟨z0,z1,z2,z3,z4,z5,z6,ex⟩ (p:=cloneI p)
     rw[hst2]at NS2
     have HN2:=zhd NS2
     clear NS2
     have HA:=zh8 L SA hev2 dv hexw hst2 hmv (zai BWW hgk)
     have hev31:st2.2.events≤31:=by have:=L.ev;omega
     clear hel hen hcs hrel hev L SA hev2 dv hexw hst2 hmv BWW BW hgk
     go_upto_region 11 with(fail)
     refine wp_named ?_
     intro w6 hw6
     have B6:=zba hw6
     have hb6:=zha hw6
     have x0:=zca hb6 0 rfl
     have x1:=zca hb6 1 rfl
     have x2:=zca hb6 2 rfl
     have x3:=zca hb6 3 rfl
     have x4:=zca hb6 4 rfl
     have x5:=zca hb6 5 rfl
     have x6:=zca hb6 6 rfl
     have x7:=zca hb6 7 rfl
     have x8:=zca hb6 8 rfl
     have x9:=zca hb6 9 rfl
     have x10:=zca hb6 10 rfl
     have xl:=zlt hb6
     have BW6:=HA.out.2.2.2.2.2.2.2.1.trans (B6.mono HA.out.2.2.2.2.2.2.2.1.size)
     have AP:=zhd (apply_any b v (cloneI p) s w6 (HA.out.1.mx.ext B6) (HG.out.below BW6) fa HK.out.1 HK.out.2.1 HK.out.2.2.1 HA.out.1.st (by have:=HA.out.1.ev;have h1:=HF.out.1.len;have h2:=HH.out.2.2.2.2;omega) (fun q hq=>by have h1:=B6.size;have h2:=HA.out.1.kp.keeps.size;have h3:=H5.out.2.2.size;omega) z0 z1 z2 z3 z4 z5 z6 ex zk zn zs za zl zc (fun j=>j<W.heap.size) (HA.out.2.2.2.1.keep (S:=fun _=>False) (zkb BW6) (fun _ _ f=>f)) HA.out.2.2.2.2.1 (fun q hq=>HA.out.2.2.2.2.2.2.1 q (by have h1:=HB2.out.1.size;have hq:q<W.heap.size:=hq;omega)) _ HA.out.2.2.2.2.2.1)
     have H6:=zhd B6
     clear hw6 B6 hb6 y0 y1 y2 y3 y4 y5 y6 y7 y8 y9 y10 hgl BW6
     go_wp2_with fail
     refine AP.out.mono ?_
     rintro e w7 ⟨v7,rfl,H7⟩
     have K7:MK b v0 w5 v7 w7:=HA.out.1.kp.trans ((MK.ext H6.out).trans H7.out.2)
     have HMS:=zhd (show en - (j+1)<gk from by have:=HA.out.2.2.2.2.2.2.2.2;omega)
     have HEV:=zhd (show st2.2.events≤j+1 from by have h1:=HA.out.2.2.1;have h2:=HA.out.1.ev;omega)
     have HK7:=zhd K7
     clear K7 x0 x1 x2 x3 x4 x5 x6 x7 x8 x9 x10 xl AP
     have hwj:=HWJ.out
     go_wp2_with fail
     go_roundg (en - (j+1))
     case measure=>exact HMS.out
     case rel=>exact⟨j+1,v7,st2.2,by first|(simp;done)|(simp;exact HWJ.out),hjn,rfl,⟨H7.out.1,HK7.out,HA.out.2.1,HEV.out⟩,HN2.out⟩
    ·obtain rfl:j=en:=by omega
     have hjj:¬(j:Int)<j:=by omega
     have hml:s.made.length≤4294967296:=by
      have h1:=L.st.bd
      have h2:=L.ev
      have h3:=HF.out.1.len
      have h4:=HH.out.2.2.2.2
      omega
     obtain⟨w6,hw6⟩:∃w6,w6=wr.alloc (.map #[] 0):=⟨_,rfl⟩
     have HWR:=zhd BWW.size
     have B6:=zba hw6
     have hm6:=zha hw6
     have MP6:MapAt NM w6 wr.heap.size (mOf []):=⟨#[],0,hm6,rfl,by simp[mOf]⟩
     have MD:=zhd (made_any b v _ _ w6 (L.mx.ext B6) (mds_sz L.st) hml)
     have hmm:= @run_makeMap Tryz.prog
     have H6:=zh3 B6 MP6 (BWW.trans (B6.mono BWW.size))
     have HOK:=zhd (okL_clone _ _ HNS.out.ok)
     have HL6:=zhd hml
     clear B6 hm6 MP6 hml L BW BWW hmo hmv hgk
     go_wp2_with fail
     rw[←hw6]
     clear hw6 hmm
     refine MD.out.mono ?_
     rintro e w7 ⟨r7,rfl,H7⟩
     obtain⟨am,cm,rfl⟩:∃a c,r7= .slice a (s.made.map cloneC).length c:=H7.out.1.slice
     obtain⟨ms,hms⟩:∃ms,ms=s.made.map cloneC:=⟨_,rfl⟩
     have hlm:ms.length≤4294967296:=by rw[hms,List.length_map];exact HL6.out
     have HOK:=zhd (show okL ms nt0 by rw[hms];exact HOK.out)
     have X7:XRow (fun g=>w6.heap.size≤g) w7 68 (.slice am ms.length cm) ms:=by rw[hms];exact H7.out.1
     rw[←hms]
     have HO7:∀g,(Value.slice am ms.length cm).ownBlock=some g→w6.heap.size≤g:=by rw[hms];exact H7.out.2.1
     have H7:=zh4 X7 HO7 H7.out.2.2 hlm
     clear HO7
     obtain⟨mb,hmb⟩:∃mb,mb=wr.heap.size:=⟨_,rfl⟩
     have MP7:MapAt NM w7 mb (mOf []):=by
      have hs:=H6.out.1.size
      have h0:=H6.out.2.1
      obtain⟨es,ck,h1,h2,h3⟩:=h0
      rw[hmb]
      exact⟨es,ck,(H7.out.2.2.1.block _ (zlt h1)).trans h1,h2,h3⟩
     have ML:mb<w6.heap.size:=by
      obtain⟨es,ck,h1,h2,h3⟩:=H6.out.2.1
      rw[hmb];exact zlt h1
     have BW7:=H6.out.2.2.trans (H7.out.2.2.1.mono H6.out.2.2.size)
     have WM:W.heap.size≤mb:=by rw[hmb];exact HWR.out
     have HM7:=zh4 MP7 ML BW7 WM
     clear X7 hlm hms MD MP7 ML BW7 WM
     go_wp2_with fail
     rw[←hmb]
     clear hmb
     go_loopg [41,9,10] (ms.length) (fun gk v41 v9 v10 wx=>NuRel w7 mb ms gk v41 v9 v10 wx)
     case atStart=>exact⟨0,rfl,rfl,rfl,Nat.zero_le _,rfl,HM7.out.1,Keeps.refl _ _⟩
     case round=>
      obtain⟨k,rfl,rfl,rfl,hk,hgk,hM,hK⟩:=hrel
      by_cases hkn:k<ms.length
      ·have _u:=trivial
       obtain⟨c,hc⟩:=elem_at hkn
       have hok:=okL_at _ _ k c HOK.out hc
       have hnt:=ntL_take nt0 hc
       have hbd:=ntL_bd (ms.take k) nt0 ⟨by decide,by decide⟩
       have hlk:(ms.take k).length≤4294967296:=by rw[List.length_take];have:=H7.out.2.2.2;omega
       have hn0:nt0.t=0∧nt0.a=0:=⟨rfl,rfl⟩
       rw[hn0.1,hn0.2]at hbd
       generalize ntL (ms.take k) nt0=nt at*
       obtain⟨t,a,cs⟩:=nt
       dsimp only at hbd hM⊢
       have X:XRow (fun g=>w6.heap.size≤g) wr 68 (.slice am ms.length cm) ms:=H7.out.1.keep hK (fun g hg e=>by have:=HM7.out.2.1;have hg:w6.heap.size≤g:=hg;omega) (fun g hg e=>by have:=HM7.out.2.1;have:=H7.out.2.1 g hg;omega)
       obtain⟨g,off,⟨ck,ct,ca,cb,cn,⟨vk,vn,vs,la,ln,lc⟩⟩,rfl,hg,hrel,_,hcs⟩:=X.at_ hc
       have hrel2:CmF (fun g=>w6.heap.size≤g) wr ⟨ck,ct,ca,cb,cn,⟨vk,vn,vs,la,ln,lc⟩⟩ c:=hrel
       have hka:ck=c.kind:=hrel2.kind
       have hca:ca=c.a:=hrel2.a
       have m0:wr.cell? ⟨g,off+k*9,none⟩=some (.int .i64 ck):=hcs 0 _ rfl
       have m1:wr.cell? ⟨g,off+k*9+1,none⟩=some (.int .i64 ct):=hcs 1 _ rfl
       have m2:wr.cell? ⟨g,off+k*9+2,none⟩=some (.int .i64 ca):=hcs 2 _ rfl
       have m3:wr.cell? ⟨g,off+k*9+3,none⟩=some (.int .i64 cb):=hcs 3 _ rfl
       have m4:wr.cell? ⟨g,off+k*9+4,none⟩=some (.string cn):=hcs 4 _ rfl
       have m5:wr.cell? ⟨g,off+k*9+5,none⟩=some (.int .i64 vk):=hcs 5 _ rfl
       have m6:wr.cell? ⟨g,off+k*9+6,none⟩=some (.int .i64 vn):=hcs 6 _ rfl
       have m7:wr.cell? ⟨g,off+k*9+7,none⟩=some (.string vs):=hcs 7 _ rfl
       have m8:wr.cell? ⟨g,off+k*9+8,none⟩=some (.slice la ln lc):=hcs 8 _ rfl
       have hkn':(k:Int)<ms.length:=by omega
       have HMS:=zhd (show ms.length - (k+1)<gk from by omega)
       have HWK:=zhd (show wrap64 ((k:Int)+1)=(k:Int)+1 by have:=H7.out.2.2.2;unfold wrap64;omega)
       have HWV:=zhd (show IntKind.i64.wrap (t+1)=t+1∧IntKind.i64.wrap (a+1)=a+1 from⟨IntWalk.i64_in _ (by omega),IntWalk.i64_in _ (by omega)⟩)
       have HWT:=zhd (show wrap64 (t+1)=t+1∧wrap64 (a+1)=a+1 by unfold wrap64;omega)
       have hmw:=zlt hM.choose_spec.choose_spec.1
       have HX:=zh4 hM hK hok hnt
       have HKA:=zh2 hka hca
       clear X hcs hrel hrel2 hM hK hok hnt hbd hlk hn0 hgk hka hca
       go_upto_region 18 with(fail)
       refine wp_named ?_
       intro w8 hw8
       have B8:=zba hw8
       have hb8:=zha hw8
       have x0:=zca hb8 0 rfl
       have x2:=zca hb8 2 rfl
       have xl:=zlt hb8
       have HM8:=zhd (map_below HX.out.1 B8)
       have HK8:=zhd (HX.out.2.1.trans (T:=fun _=>False) (zkb B8) (fun _ _ f=>f.elim))
       clear hw8 hb8 B8 m0 m1 m2 m3 m4 m5 m6 m7 m8 hg
       have hka:=HKA.out.1
       have hca:=HKA.out.2
       have hok:=HX.out.2.2.1
       have hnt:=HX.out.2.2.2
       unfold ok1 at hok
       unfold nt1 at hnt
       by_cases e1:c.kind=1
       ·rw[if_pos e1]at hok hnt
        obtain rfl:ck=1:=hka.trans e1
        obtain rfl:ca=t+1:=hca.trans hok
        have HNX:=zhd hnt
        have hwt:=HWT.out.1
        have hww:IntKind.i64.wrap (t+1)=t+1:=HWV.out.1
        clear hok hnt e1 hka hca
        go_wp2_with fail
        go_roundg (ms.length - (k+1))
        case measure=>exact HMS.out
        case rel=>exact⟨k+1,by first|(simp;done)|(simp;exact HWK.out),by rw[HNX.out],by rw[HNX.out],hkn,rfl,by rw[HNX.out];exact HM8.out,HK8.out⟩
       ·rw[if_neg e1]at hok hnt
        by_cases e3:c.kind=3
        ·rw[if_pos e3]at hok hnt
         obtain rfl:ck=3:=hka.trans e3
         obtain rfl:ca=a+1:=hca.trans hok
         have HNX:=zhd hnt
         have hwt:=HWT.out.2
         have hww:IntKind.i64.wrap (a+1)=a+1:=HWV.out.2
         clear hok hnt e1 e3 hka hca
         go_wp2_with fail
         go_roundg (ms.length - (k+1))
         case measure=>exact HMS.out
         case rel=>exact⟨k+1,by first|(simp;done)|(simp;exact HWK.out),by rw[HNX.out],by rw[HNX.out],hkn,rfl,by rw[HNX.out];exact HM8.out,HK8.out⟩
        ·rw[if_neg e3]at hok hnt
         by_cases e2:c.kind=2
         ·rw[if_pos e2]at hok hnt
          obtain rfl:ck=2:=hka.trans e2
          rw[←hca]at hok hnt
          dsimp only at hok
          have h1:¬ca<1:=by omega
          have h2:¬t<ca:=by omega
          have hlk:=fun W hW=>nm_look HM8.out ca false (decide_eq_false hok.2.2) W hW
          obtain⟨o,hup,hmap⟩:=MapAt.store HM8.out nmlaw Tryz.underlying64 ca true
          replace hup:∀X:World,Same w8 mb X→(Instr.mapUpdate 64 (.map (some mb)) (.int .i64 ca) (.bool true)).run Tryz.prog X= .ok () (setBlock X mb o):=hup
          have HNX:=zhd hnt
          have HMP:=zhd hmap
          have hmw8:mb<w8.heap.size:=by omega
          clear hok hnt e1 e2 e3 hka hca hmap
          go_wp2_with fail
          go_roundg (ms.length - (k+1))
          case measure=>exact HMS.out
          case rel=>exact⟨k+1,by first|(simp;done)|(simp;exact HWK.out),by rw[HNX.out],by rw[HNX.out],hkn,rfl,by rw[HNX.out];exact HMP.out _ (setBlock_same _ _ _ hmw8),HK8.out.setBlock (.inl rfl) _⟩
         ·rw[if_neg e2]at hnt
          have HNX:=zhd hnt
          have k1:(ck==1)=false:=by rw[hka];simpa using e1
          have k3:(ck==3)=false:=by rw[hka];simpa using e3
          have k2:(ck==2)=false:=by rw[hka];simpa using e2
          clear hok hnt e1 e2 e3 hka hca
          go_wp2_with fail
          go_roundg (ms.length - (k+1))
          case measure=>exact HMS.out
          case rel=>exact⟨k+1,by first|(simp;done)|(simp;exact HWK.out),by rw[HNX.out],by rw[HNX.out],hkn,rfl,by rw[HNX.out];exact HM8.out,HK8.out⟩
      ·obtain rfl:k=ms.length:=by omega
       have hkk:¬(ms.length:Int)<ms.length:=by omega
       have HE:=zhd (show Below W.heap.size W wr from HM7.out.2.2.1.trans (hK.below HM7.out.2.2.1.size (fun q hq e=>by have:=HM7.out.2.2.2;omega)))
       clear hM hK hgk
       go_wp2_with fail
       go_ret
       exact⟨rfl,HE.out⟩
end Go.Proofs.YtakljipkaoahnaaGreatDoor
