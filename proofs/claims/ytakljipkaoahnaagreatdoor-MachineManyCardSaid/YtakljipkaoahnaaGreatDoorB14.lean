/- Parts of the proof: what the functions and the plain laws give that later parts lean on. Conditions: none beyond those that each theorem names. -/
import Derived.Test.YtakljipkaoahnaaGreatDoorB7
import Derived.Test.YtakljipkaoahnaaGreatDoorB13
set_option maxRecDepth 100000
set_option maxHeartbeats 8000000
namespace Go.Va
open Go.Own
def hsK (H:Nat→Int)(n k:Nat):List Int:=(List.range (k+1)).map H++List.replicate (n - (k+1)) (-1)
section
variable{code:List In} {H:Nat→Int} {n k f:Nat} {c:In} {mo:Int}
def Straight (code:List In)(H:Nat→Int)(k:Nat):Prop:=∃c,code[k]? =some c∧followN c k=[k+1]∧0≤H k - takesL c∧H k - takesL c+(ofL c.op).1.o=H (k+1)∧H (k+1)≤32
end
theorem spanM_le {code:List In}{B:Nat}:∀(l:List Int) (k m:Nat),m≤B→(∀(j:Nat) (h:Int),l[j]? =some h→0≤h→spF code (code.length+1) (k+j)≤B)→spanM code k l m≤B
 |[],_,_,hm,_=>hm
 |y::r,k,m,hm,h=>by
  rw[spanM]
  refine spanM_le r (k+1) _ ?_ (fun j hh hj h0=> ?_)
  ·by_cases h0:0≤y
   ·rw[decide_eq_true h0]
    have:=h 0 y rfl h0
    rw[Nat.add_zero]at this
    exact Nat.max_le.2 ⟨hm,this⟩
   ·rw[decide_eq_false h0]
    exact hm
  ·have:=h (j+1) hh (by simpa using hj) h0
   rwa[show k+(j+1)=k+1+j by omega]at this
theorem spanM_ge {code:List In}:∀(l:List Int) (k m:Nat),m≤spanM code k l m
 |[],_,_=>Nat.le_refl _
 |y::r,k,m=>by
  rw[spanM]
  refine Nat.le_trans ?_ (spanM_ge (code:=code) r (k+1) _)
  cases decide (0≤y)
  ·exact Nat.le_refl _
  ·exact Nat.le_max_left ..
theorem spanM_at {code:List In}:∀(l:List Int) (k m j:Nat) (h:Int),l[j]? =some h→0≤h→spF code (code.length+1) (k+j)≤spanM code k l m
 |[],_,_,_,_,h,_=>by simp at h
 |y::r,k,m,0,h,hh,h0=>by
  simp at hh
  subst hh
  rw[spanM,decide_eq_true h0]
  have:=spanM_ge (code:=code) r (k+1) (max m (spF code (code.length+1) k))
  exact Nat.le_trans (Nat.le_max_right ..) this
 |y::r,k,m,j+1,h,hh,h0=>by
  rw[spanM,show k+(j+1)=k+1+j by omega]
  exact spanM_at r (k+1) _ j h (by simpa using hh) h0
end Go.Va
namespace Go.Proofs.YtakljipkaoahnaaGreatDoor
open Go.RowKit Go.Own Go.Own.MapTy Go.Va Go.Sort
open Go.Own.Cells (sz enc)
structure Known (p:Img)(fa:Fa):Prop where
 img:imgL p=0
 len:fa.heights.length=p.code.length
 zero:fa.heights[0]? =some 0
 most:0≤fa.most
 low:∀(k:Nat) (h:Int),fa.heights[k]? =some h→ -1≤h∧h≤32
 done:∀(k:Nat) (h:Int),fa.heights[k]? =some h→0≤h→DoneAt p.code fa.heights fa.most k h
 dn:∀(k:Nat) (h:Int),fa.heights[k]? =some h→0≤h→dnF p.code (p.code.length+1) k
 span:∀(k:Nat) (h:Int),fa.heights[k]? =some h→0≤h→((spF p.code (p.code.length+1) k:Nat):Int)≤fa.span
theorem checkG_law {p:Img}{fa:Fa}{a e:Int}(h:checkG p=(fa,a,e)):(e≠0→fa=noFa)∧(e=0→a= -1∧Known p fa):=by
 unfold checkG at h
 cases h1:(imgL p !=0)with
 |true=>
  rw[h1]at h
  simp only[cond_true,Prod.mk.injEq]at h
  exact⟨fun _=>h.1.symm,fun e0=>by rw[←h.2.2]at e0;rw[e0]at h1;cases h1⟩
 |false=>
  have hi:imgL p=0:=by simpa using h1
  have OK:=codeOk_of hi
  rw[h1]at h
  simp only[cond_false]at h
  cases h2:((walkL p.code).1.2 !=0)with
  |true=>
   rw[h2]at h
   simp only[cond_true,Prod.mk.injEq]at h
   have h5:(walkL p.code).1.2=e:=congrArg Prod.snd h.2
   exact⟨fun _=>h.1.symm,fun e0=>by rw[h5,e0]at h2;cases h2⟩
  |false=>
   rw[h2]at h
   simp only[cond_false]at h
   obtain⟨_,WD⟩:=walkL_law OK (by simpa using h2)
   generalize(walkL p.code).2=st at h WD
   cases h3:firstR p.code 0 st.heights with
   |some k=>
    rw[h3]at h
    simp only[Prod.mk.injEq]at h
    exact⟨fun _=>h.1.symm,fun e0=>by have:=h.2.2;omega⟩
   |none=>
    rw[h3]at h
    simp only[Prod.mk.injEq]at h
    obtain⟨h4,h5,h6⟩:=h
    refine⟨fun e0=>absurd h6.symm e0,fun _=>⟨h5.symm,?_⟩⟩
    subst h4
    have hcl:=WD.closed OK
    have hno:∀k,(∃h,st.heights[k]? =some h∧0≤h)→roundL p.code k=false:=fun k ⟨h,hh,h0⟩=>by
     have:=firstR_none st.heights 0 h3 k h hh h0
     rwa[Nat.zero_add]at this
    exact⟨hi,WD.inv.len,WD.zero,WD.inv.m0,fun k h hh=>WD.inv.all h (zmg hh),WD.done,fun k h hh h0=>dn_all hcl hno ⟨h,hh,h0⟩,fun k h hh h0=>by
     have:=spanM_at (code:=p.code) st.heights 0 0 k h hh h0
     rw[Nat.zero_add]at this
     show _≤((spanM p.code 0 st.heights 0:Nat):Int)
     omega⟩
theorem Known.step {p:Img}{fa:Fa}(K:Known p fa){k:Nat}{h run:Int}(hh:fa.heights[k]? =some h)(h0:0≤h)(hr:run+((spF p.code (p.code.length+1) k:Nat):Int)≤fa.span):
  ∃c,p.code[k]? =some c∧(ofL c.op).2=true∧0≤c.a∧c.a≤512∧0≤takesL c∧takesL c≤512∧0≤(ofL c.op).1.o∧(ofL c.op).1.o≤2∧takesL c≤h∧run+1≤fa.span∧
   ∀x∈followN c k,x<p.code.length∧∃h',h'=h+((ofL c.op).1.o - takesL c)∧fa.heights[x]? =some h'∧0≤h'∧h'≤fa.most∧(bif restsL c then 0 else run+1)+((spF p.code (p.code.length+1) x:Nat):Int)≤fa.span:=by
 obtain⟨c,h1,h2,h3,h4,h5⟩:=K.done k h hh h0
 have OK:=codeOk_of K.img
 have hcm:=zmg h1
 obtain⟨i1,i2,_,_,_,_,_,_,hco⟩:=imgL_ok K.img
 obtain⟨o1,o2,o3⟩:=hco c hcm
 have hm:mostL p (ofL c.op).1.operand≤513:=by
  unfold mostL
  obtain⟨_,_,m3,m4,m5,m6,_,_,_⟩:=imgL_ok K.img
  cases((ofL c.op).1.operand==1)<;>cases((ofL c.op).1.operand==2)<;>cases((ofL c.op).1.operand==3)<;>cases((ofL c.op).1.operand==4)<;>cases((ofL c.op).1.operand==5)<;>simp<;>omega
 have hpos:=spF_pos (K.dn k h hh h0)
 refine⟨c,h1,o1,o2,by omega,(OK.tk c hcm).1,(OK.tk c hcm).2,(OK.o c hcm).1,(OK.o c hcm).2,by omega,by omega,fun x hx=> ?_⟩
 obtain⟨hxl,hxh⟩:=h5 x hx
 have ho:=(OK.o c hcm).1
 refine⟨hxl,h - takesL c+(ofL c.op).1.o,by omega,hxh,by omega,by omega,?_⟩
 have hsx:=K.span x _ hxh (by omega)
 cases hra:restsL c with
 |true=>simp only[cond_true];omega
 |false=>
  simp only[cond_false]
  have hra2:restsAt p.code k=false:=by unfold restsAt;rw[h1];exact hra
  have hfa:followAt p.code k=followN c k:=by unfold followAt;rw[h1]
  have hd:=K.dn k h hh h0
  rw[dnF]at hd
  have hdx:=hd.resolve_left (by rw[hra2];simp) x (by rw[hfa];exact hx)
  have hs:spF p.code (p.code.length+1) k=(followN c k).foldl (fun n x=>max n (spF p.code p.code.length x)) 0+1:=by
   rw[spF,hra2,hfa]
   rfl
  have hge:∀(l:List Nat) (a:Nat),x∈l→spF p.code p.code.length x≤l.foldl (fun n x=>max n (spF p.code p.code.length x)) a:=fun l=>by
   have hmono:∀(l:List Nat) (a:Nat),a≤l.foldl (fun n x=>max n (spF p.code p.code.length x)) a:=fun l=>by
    induction l with
    |nil=>exact fun a=>Nat.le_refl _
    |cons y r ih=>exact fun a=>Nat.le_trans (Nat.le_max_left ..) (ih _)
   induction l with
   |nil=>intro a h;cases h
   |cons y r ih=>
    intro a h
    rw[List.foldl_cons]
    rcases List.mem_cons.1 h with rfl|h
    ·exact Nat.le_trans (Nat.le_max_right ..) (hmono r _)
    ·exact ih _ h
  have h6:=hge (followN c k) 0 hx
  have h7:=(dn_mono hdx (Nat.le_succ _)).2
  rw[h7]
  omega
end Go.Proofs.YtakljipkaoahnaaGreatDoor
namespace Go.Va
open Go.Own Go.RowKit
def overs:List Th→Nat
 |[]=>0
 |x::r=>(bif x.over then 1 else 0)+overs r
def pot (s:MS):Nat:=s.letters.length+(overs s.timers.list+overs s.acts.list)
theorem overs_app:∀(l r:List Th),overs (l++r)=overs l+overs r
 |[],r=>by simp[overs]
 |x::l,r=>by rw[List.cons_append,overs,overs,overs_app l r];omega
theorem overs_erase:∀(l:List Th) (i:Nat) (x:Th),l[i]? =some x→overs (l.eraseIdx i)+(bif x.over then 1 else 0)=overs l
 |[],_,_,h=>by simp at h
 |y::r,0,x,h=>by
  simp at h
  subst h
  rw[List.eraseIdx_zero,List.tail_cons,overs]
  omega
 |y::r,i+1,x,h=>by
  rw[List.eraseIdx_cons_succ,overs,overs]
  have:=overs_erase r i x (by simpa using h)
  omega
theorem findT_some {id:Int}:∀{l:List Th} {i:Nat},findT id l=some i→∃x,l[i]? =some x∧x.id=id
 |[],i,h=>by cases h
 |y::r,i,h=>by
  rw[findT]at h
  by_cases he:y.id=id
  ·rw[if_pos he]at h
   cases h
   exact⟨y,rfl,he⟩
  ·rw[if_neg he]at h
   cases hf:findT id r with
   |none=>rw[hf]at h;cases h
   |some j=>
    rw[hf]at h
    cases h
    obtain⟨x,h1,h2⟩:=findT_some hf
    exact⟨x,h1,h2⟩
theorem findLt_some {name:ByteArray}:∀{l:List Lt} {i:Nat},findLt name l=some i→∃x,l[i]? =some x∧x.name=name
 |[],i,h=>by cases h
 |y::r,i,h=>by
  rw[findLt]at h
  by_cases he:y.name=name
  ·rw[if_pos he]at h
   cases h
   exact⟨y,rfl,he⟩
  ·rw[if_neg he]at h
   cases hf:findLt name r with
   |none=>rw[hf]at h;cases h
   |some j=>
    rw[hf]at h
    cases h
    obtain⟨x,h1,h2⟩:=findLt_some hf
    exact⟨x,h1,h2⟩
theorem erase_len {α:Type}{l:List α}{i:Nat}{x:α}(h:l[i]? =some x):(l.eraseIdx i).length+1=l.length:=by
 have:=(zge h).1
 rw[List.length_eraseIdx,if_pos this]
 omega
structure Eff (s s':MS)(n m q:Nat):Prop where
 at_:s'.at_=s.at_
 len:s'.stk.length=s.stk.length - n+m
 pot:pot s'+q≤pot s
theorem fall_over (s:MS)(why:ByteArray):(s.fall why).over=true:=by simp[MS.fall,MS.want]
theorem put_res (s:MS)(v:Val):(s.put v).over=true∨s.put v=s.push v:=by
 unfold MS.put
 split
 ·exact .inl (fall_over _ _)
 ·exact .inr rfl
theorem arith_res (s:MS)(op:Int)(a b:Val):(s.arith op a b).over=true∨∃x,s.arith op a b=s.push x:=by
 unfold MS.arith
 split
 ·exact .inl (fall_over _ _)
 ·exact .inr ⟨_,rfl⟩
theorem two_res (s:MS)(op:Int)(a b:Val):(s.two op a b).over=true∨∃x,s.two op a b=s.push x:=by
 have hp:∀v,(s.put v).over=true∨∃x,s.put v=s.push x:=fun v=>(put_res s v).imp id (fun h=>⟨v,h⟩)
 unfold MS.two
 repeat' split
 all_goals first|exact .inr ⟨_,rfl⟩|exact .inl (fall_over _ _)|exact hp _|exact arith_res s op a b
def tkR (op:Int)(k:Nat):Nat:=if op=29 then k else if op=10∨op=31 then 1 else 2
theorem reckon_res (s:MS)(op:Int)(k:Nat):(s.reckon op k).over=true∨Eff s (s.reckon op k) (tkR op k) 1 0:=by
 have hpush:∀(l:List Val) (x:Val),l.length=s.stk.length - tkR op k→Eff s (({s with stk:=l}:MS).push x) (tkR op k) 1 0:=fun l x hl=>⟨rfl,by show(l++[x]).length=_;rw[List.length_append,hl];rfl,Nat.le_refl _⟩
 unfold MS.reckon
 by_cases h1:op=29
 ·rw[if_pos h1]
  rcases put_res ({s with stk:=s.stk.take (s.stk.length - k)}:MS) (.mk 3 0 ⟨#[]⟩ (s.stk.drop (s.stk.length - k)))with h|h
  ·exact .inl h
  ·rw[h]
   exact .inr (hpush _ _ (by rw[List.length_take,tkR,if_pos h1];omega))
 ·rw[if_neg h1]
  by_cases h2:op=10
  ·rw[if_pos h2]
   exact .inr (hpush _ _ (by rw[List.length_dropLast,tkR,if_neg h1,if_pos (.inl h2)]))
  ·rw[if_neg h2]
   by_cases h3:op=31
   ·rw[if_pos h3]
    have hl:s.stk.dropLast.length=s.stk.length - tkR op k:=by rw[List.length_dropLast,tkR,if_neg h1,if_pos (.inr h3)]
    split
    ·exact .inr (hpush _ _ hl)
    ·split
     ·exact .inr (hpush _ _ hl)
     ·exact .inl (fall_over _ _)
   ·rw[if_neg h3]
    rcases two_res s.pop.pop op s.pop.top s.top with h|⟨x,h⟩
    ·exact .inl h
    ·rw[h]
     refine .inr (hpush _ _ ?_)
     show s.stk.dropLast.dropLast.length=_
     rw[List.length_dropLast,List.length_dropLast,tkR,if_neg h1,if_neg (by omega)]
     omega
theorem begin_res (s:MS)(op:Int)(name:ByteArray)(hl:(if op=20 then 2 else 1)≤s.stk.length):(s.begin_ op name).over=true∨Eff s (s.begin_ op name) (if op=20 then 2 else 1) 1 0:=by
 unfold MS.begin_
 by_cases h19:op=19
 ·rw[if_pos h19]
  dsimp only
  cases hf:(if s.top.kind=1 then findT s.top.num s.timers.list else none)with
  |none=>exact .inl (fall_over _ _)
  |some i=>
   dsimp only
   have hf2:findT s.top.num s.timers.list=some i:=by
    split at hf
    ·exact hf
    ·cases hf
   obtain⟨x,hx,_⟩:=findT_some hf2
   have ho:=overs_erase _ _ _ hx
   rw[hx]
   dsimp only[Option.getD]
   refine .inr ?_
   cases hov:x.over with
   |true=>
    rw[hov]at ho
    refine⟨rfl,?_,?_⟩
    ·show(s.stk.dropLast++[_]).length=_
     rw[List.length_append,List.length_dropLast,if_neg (by omega)]
     rfl
    ·show s.letters.length+(overs (s.timers.list.eraseIdx i)+overs s.acts.list)+0≤s.letters.length+(overs s.timers.list+overs s.acts.list)
     omega
   |false=>
    rw[hov]at ho
    refine⟨rfl,?_,?_⟩
    ·show(s.stk.dropLast++[_]).length=_
     rw[List.length_append,List.length_dropLast,if_neg (by omega)]
     rfl
    ·show s.letters.length+(overs (s.timers.list.eraseIdx i)+overs s.acts.list)+0≤s.letters.length+(overs s.timers.list+overs s.acts.list)
     omega
 ·rw[if_neg h19]
  dsimp only
  split
  ·exact .inl (fall_over _ _)
  ·split
   ·exact .inl (fall_over _ _)
   ·refine .inr ?_
    by_cases h20:op=20
    ·rw[if_pos h20,if_pos h20]
     rw[if_pos h20]at hl
     refine⟨rfl,?_,?_⟩
     ·show(s.stk.dropLast.dropLast++[_]).length=_
      rw[List.length_append,List.length_dropLast,List.length_dropLast,List.length_singleton]
      omega
     ·show s.letters.length+(overs s.timers.list+overs (s.acts.list++[_]))+0≤s.letters.length+(overs s.timers.list+overs s.acts.list)
      rw[overs_app]
      simp[overs]
    ·rw[if_neg h20,if_neg h20]
     refine⟨rfl,?_,?_⟩
     ·show(s.stk.dropLast++[_]).length=_
      rw[List.length_append,List.length_dropLast,List.length_singleton]
     ·show s.letters.length+(overs (s.timers.list++[_])+overs s.acts.list)+0≤s.letters.length+(overs s.timers.list+overs s.acts.list)
      rw[overs_app]
      simp[overs]
theorem openL_pot {s:MS}{i:Nat}{name:ByteArray}(h:findLt name s.letters=some i):pot (s.openL i)+1=pot s:=by
 obtain⟨x,hx,_⟩:=findLt_some h
 have:=erase_len hx
 show(s.letters.eraseIdx i).length+(overs s.timers.list+overs s.acts.list)+1=s.letters.length+(overs s.timers.list+overs s.acts.list)
 omega
theorem wait_res (s s':MS)(op:Int)(name:ByteArray)(hop:op=18∨op=21∨op=22∨op=28)(h:s.wait op name=some s'):s'.over=true∨(s'.at_=s.at_+1∧s'.stk.length=s.stk.length - (ofL op).1.i.toNat+(ofL op).1.o.toNat∧pot s'+1=pot s):=by
 unfold MS.wait at h
 by_cases h22:op=22
 ·subst h22
  rw[if_pos rfl]at h
  cases hf:findLt name s.letters with
  |none=>rw[hf]at h;cases h
  |some i=>
   rw[hf]at h
   cases h
   refine .inr ⟨rfl,?_,openL_pot hf⟩
   show(s.stk++[_]).length=_
   rw[List.length_append]
   rfl
 ·rw[if_neg h22]at h
  dsimp only at h
  cases hf:(if s.top.kind=1 then findT s.top.num (if op=21 then s.acts.list else s.timers.list)else none)with
  |none=>
   rw[hf]at h
   cases h
   exact .inl (fall_over _ _)
  |some i=>
   rw[hf]at h
   dsimp only at h
   have hf2:findT s.top.num (if op=21 then s.acts.list else s.timers.list)=some i:=by
    split at hf
    ·exact hf
    ·cases hf
   obtain⟨x,hx,_⟩:=findT_some hf2
   cases hk:(if op=28 then findLt name s.letters else none)with
   |some k=>
    rw[hk]at h
    cases h
    by_cases h28:op=28
    ·subst h28
     rw[if_pos rfl]at hk
     refine .inr ⟨rfl,?_,openL_pot (s:=s.pop) hk⟩
     show((s.stk.dropLast++[_])++[_]).length=_
     rw[List.length_append,List.length_append,List.length_dropLast]
     rfl
    ·rw[if_neg h28]at hk
     cases hk
   |none=>
    rw[hk,hx]at h
    dsimp only[Option.getD]at h
    have ho:=overs_erase _ _ _ hx
    cases hov:x.over with
    |false=>rw[hov]at h;cases h
    |true=>
     rw[hov]at h ho
     simp only[Bool.not_true,cond_false,Option.some.injEq]at h
     by_cases h21:op=21
     ·subst h21
      rw[if_neg (by decide),if_pos rfl]at h
      rw[if_pos rfl]at h ho
      subst h
      refine .inr ⟨rfl,?_,?_⟩
      ·show((s.stk.dropLast++[_])++[_]).length=_
       rw[List.length_append,List.length_append,List.length_dropLast]
       rfl
      ·show s.letters.length+(overs s.timers.list+overs ((if(21:Int)=21 then s.acts.list else s.timers.list).eraseIdx i))+1=s.letters.length+(overs s.timers.list+overs s.acts.list)
       simp only[cond_true]at ho
       rw[if_pos rfl]
       omega
     ·rw[if_neg h21,if_neg h21,if_neg h21]at h
      rw[if_neg h21]at ho
      simp only[cond_true]at ho
      by_cases h18:op=18
      ·subst h18
       rw[if_pos rfl]at h
       subst h
       refine .inr ⟨rfl,?_,?_⟩
       ·show(s.stk.dropLast++[_]).length=_
        rw[List.length_append,List.length_dropLast]
        rfl
       ·show s.letters.length+(overs (s.timers.list.eraseIdx i)+overs s.acts.list)+1=s.letters.length+(overs s.timers.list+overs s.acts.list)
        omega
      ·rw[if_neg h18]at h
       have h28:op=28:=by omega
       subst h28
       subst h
       refine .inr ⟨rfl,?_,?_⟩
       ·show((s.stk.dropLast++[_])++[_]).length=_
        rw[List.length_append,List.length_append,List.length_dropLast]
        rfl
       ·show s.letters.length+(overs (s.timers.list.eraseIdx i)+overs s.acts.list)+1=s.letters.length+(overs s.timers.list+overs s.acts.list)
        omega
theorem nxt_eff {s s':MS}{n m q:Nat}(h:Eff s.nxt s' n m q):s'.at_=s.at_+1∧s'.stk.length=s.stk.length - n+m∧pot s'+q≤pot s:=⟨h.at_,h.len,h.pot⟩
theorem push_len (s:MS)(x:Val):(s.push x).stk.length=s.stk.length+1:=by
 show(s.stk++[x]).length=_
 rw[List.length_append]
 rfl
theorem pop_len (s:MS):s.pop.stk.length=s.stk.length - 1:=List.length_dropLast
theorem go_res (s:MS)(p:Img)(op:Int)(k:Nat)(h0:0≤op)(h1:op<33)(hb:(ofL op).1.blocks=false)(he:(ofL op).1.ends=false)(hf:(ofL op).1.flow=false)(hl:(if op=29 then k else(ofL op).1.i.toNat)≤s.stk.length):
  (s.go p op k).over=true∨Eff s (s.go p op k) (if op=29 then k else(ofL op).1.i.toNat) (ofL op).1.o.toNat 0:=by
 have hc:op=0∨op=1∨op=2∨op=3∨op=4∨op=13∨op=14∨op=15∨op=16∨op=17∨op=19∨op=20∨op=23∨op=24∨op=5∨op=6∨op=7∨op=8∨op=9∨op=10∨op=29∨op=30∨op=31∨op=32:=by
  have:op=11∨op=12∨op=18∨op=21∨op=22∨op=25∨op=26∨op=27∨op=28∨¬(op=11∨op=12∨op=18∨op=21∨op=22∨op=25∨op=26∨op=27∨op=28):=by omega
  rcases this with rfl|rfl|rfl|rfl|rfl|rfl|rfl|rfl|rfl|h
  ·cases hf
  ·cases hf
  ·cases hb
  ·cases hb
  ·cases hb
  ·cases he
  ·cases he
  ·cases he
  ·cases hb
  ·omega
 have hlast:∀l:List Val,l.dropLast.length=l.length - 1:=fun l=>List.length_dropLast
 rcases hc with rfl|rfl|rfl|rfl|rfl|rfl|rfl|rfl|rfl|rfl|rfl|rfl|rfl|rfl|rfl|rfl|rfl|rfl|rfl|rfl|rfl|rfl|rfl|rfl
 ·exact .inr ⟨rfl,rfl,Nat.le_refl _⟩
 ·exact .inr ⟨rfl,push_len s _,Nat.le_refl _⟩
 ·exact .inr ⟨rfl,pop_len s,Nat.le_refl _⟩
 ·refine .inr ⟨rfl,(push_len s _).trans ?_,Nat.le_refl _⟩
  have hl:1≤s.stk.length:=hl
  show s.stk.length+1=s.stk.length - 1+2
  omega
 ·refine .inr ⟨rfl,(push_len (s.pop.pop.push s.top) s.pop.top).trans ?_,Nat.le_refl _⟩
  rw[push_len,pop_len,pop_len]
  show s.stk.length - 1 - 1+1+1=s.stk.length - 2+2
  omega
 ·exact .inr ⟨rfl,push_len s _,Nat.le_refl _⟩
 ·exact .inr ⟨rfl,pop_len s,Nat.le_refl _⟩
 ·exact .inr ⟨rfl,push_len s _,Nat.le_refl _⟩
 ·exact .inr ⟨rfl,push_len s _,Nat.le_refl _⟩
 ·exact begin_res s 17 _ hl
 ·exact begin_res s 19 (p.names[k]?.getD ⟨#[]⟩) hl
 ·exact begin_res s 20 _ hl
 ·have e:s.go p 23 k=match findLt (p.names[k]?.getD ⟨#[]⟩) s.letters with
   |some i=>((s.openL i).push (s.letV i)).push (vBool true)
   |none=>(s.push vNil0).push (vBool false):=rfl
  rw[e]
  cases hq:findLt (p.names[k]?.getD ⟨#[]⟩) s.letters with
  |some i=>exact .inr ⟨rfl,(push_len ((s.openL i).push (s.letV i)) _).trans (by rw[push_len];rfl),by have:=openL_pot hq;show pot (s.openL i)+0≤pot s;omega⟩
  |none=>exact .inr ⟨rfl,(push_len (s.push vNil0) _).trans (by rw[push_len];rfl),Nat.le_refl _⟩
 ·exact .inr ⟨rfl,push_len s _,Nat.le_refl _⟩
 ·exact reckon_res s 5 k
 ·exact reckon_res s 6 k
 ·exact reckon_res s 7 k
 ·exact reckon_res s 8 k
 ·exact reckon_res s 9 k
 ·exact reckon_res s 10 k
 ·exact reckon_res s 29 k
 ·exact reckon_res s 30 k
 ·exact reckon_res s 31 k
 ·exact reckon_res s 32 k
theorem blocks_op {op:Int}(h0:0≤op)(h1:op<33)(h:(ofL op).1.blocks=true):op=18∨op=21∨op=22∨op=28:=by
 have hc:op=0∨op=1∨op=2∨op=3∨op=4∨op=5∨op=6∨op=7∨op=8∨op=9∨op=10∨op=11∨op=12∨op=13∨op=14∨op=15∨op=16∨op=17∨op=19∨op=20∨op=23∨op=24∨op=25∨op=26∨op=27∨op=29∨op=30∨op=31∨op=32∨(op=18∨op=21∨op=22∨op=28):=by omega
 rcases hc with rfl|rfl|rfl|rfl|rfl|rfl|rfl|rfl|rfl|rfl|rfl|rfl|rfl|rfl|rfl|rfl|rfl|rfl|rfl|rfl|rfl|rfl|rfl|rfl|rfl|rfl|rfl|rfl|rfl|h1
 all_goals first|exact h1|cases h
theorem end_over (s:MS){op:Int}(name:ByteArray):(s.end_ op name).over=true:=by
 unfold MS.end_
 split
 ·simp[MS.want]
 ·split<;>simp[MS.want]
theorem step_res {p:Img}{s s':MS}{c:In}(hc:p.code[s.at_]? =some c)(h0:0≤c.op)(h1:c.op<33)(ha:0≤c.a)(hh:takesL c≤s.stk.length)(h:stepM p s=some s'):
  s'.over=true∨(s'.at_∈followN c s.at_∧(s'.stk.length:Int)=s.stk.length+((ofL c.op).1.o - takesL c)∧pot s'+(bif restsL c then 1 else 0)≤pot s):=by
 unfold stepM at h
 rw[hc]at h
 dsimp only[Option.getD]at h
 unfold followN restsL
 cases hb:(ofL c.op).1.blocks with
 |true=>
  rw[hb]at h
  simp only[cond_true]at h
  have hop:=blocks_op h0 h1 hb
  rcases wait_res _ _ _ _ hop h with h|⟨h2,h3,h4⟩
  ·exact .inl h
  ·refine .inr ⟨?_,?_,?_⟩
   ·rw[h2]
    rcases hop with e|e|e|e<;>rw[e]<;>exact List.mem_singleton.2 rfl
   ·rw[h3]
    unfold takesL at hh⊢
    rcases hop with e|e|e|e
    all_goals
     rw[e]at hh⊢
     first|(have hh:(1:Int)≤s.stk.length:=hh;show((s.stk.length - 1+1:Nat):Int)=s.stk.length+(1 - 1);omega)|(have hh:(1:Int)≤s.stk.length:=hh;show((s.stk.length - 1+2:Nat):Int)=s.stk.length+(2 - 1);omega)|(show((s.stk.length - 0+1:Nat):Int)=s.stk.length+(1 - 0);omega)
   ·simp only[Bool.true_or,cond_true]
    omega
 |false=>
  rw[hb]at h
  simp only[cond_false]at h
  cases he:(ofL c.op).1.ends with
  |true=>
   rw[he]at h
   simp only[cond_true,Option.some.injEq]at h
   rw[←h]
   exact .inl (end_over _ _)
  |false=>
   rw[he]at h
   simp only[cond_false,Bool.or_false]at h⊢
   cases hf:(ofL c.op).1.flow with
   |true=>
    rw[hf]at h
    simp only[cond_true,Option.some.injEq]at h
    have hpop:pot s.pop=pot s:=rfl
    cases h11:(c.op==11)with
    |true=>
     rw[h11]at h
     simp only[cond_true]at h⊢
     rw[←h]
     have e:c.op=11:=by simpa using h11
     refine .inr ⟨List.mem_singleton.2 rfl,?_,Nat.le_refl _⟩
     unfold takesL
     rw[e]
     show(s.stk.length:Int)=s.stk.length+(0 - 0)
     omega
    |false=>
     rw[h11]at h
     simp only[cond_false]at h⊢
     have e:c.op=12:=by
      have hq:∀op:Int,0≤op→op<33→(ofL op).1.flow=true→op≠11→op=12:=fun op h0 h1 h hn=>by
       have hc:op=0∨op=1∨op=2∨op=3∨op=4∨op=5∨op=6∨op=7∨op=8∨op=9∨op=10∨op=13∨op=14∨op=15∨op=16∨op=17∨op=18∨op=19∨op=20∨op=21∨op=22∨op=23∨op=24∨op=25∨op=26∨op=27∨op=28∨op=29∨op=30∨op=31∨op=32∨op=12:=by omega
       rcases hc with rfl|rfl|rfl|rfl|rfl|rfl|rfl|rfl|rfl|rfl|rfl|rfl|rfl|rfl|rfl|rfl|rfl|rfl|rfl|rfl|rfl|rfl|rfl|rfl|rfl|rfl|rfl|rfl|rfl|rfl|rfl|e
       all_goals first|exact e|cases h
      exact hq c.op h0 h1 hf (by simpa using h11)
     have hl:((s.stk.length - 1:Nat):Int)=s.stk.length+((ofL c.op).1.o - takesL c):=by
      unfold takesL at hh⊢
      rw[e]at hh⊢
      have hh:(1:Int)≤s.stk.length:=hh
      show((s.stk.length - 1:Nat):Int)=s.stk.length+(0 - 1)
      omega
     cases ht:trueV s.top with
     |true=>
      rw[ht]at h
      simp only[cond_true]at h
      rw[←h]
      refine .inr ⟨List.mem_cons_self,?_,Nat.le_refl _⟩
      show((s.stk.dropLast.length:Nat):Int)=_
      rw[List.length_dropLast]
      exact hl
     |false=>
      rw[ht]at h
      simp only[cond_false]at h
      rw[←h]
      refine .inr ⟨List.mem_cons_of_mem _ (List.mem_singleton.2 rfl),?_,Nat.le_refl _⟩
      show((s.stk.dropLast.length:Nat):Int)=_
      rw[List.length_dropLast]
      exact hl
   |false=>
    rw[hf]at h
    simp only[cond_false,Option.some.injEq]at h
    have h11:(c.op==11)=false:=by
     rw[beq_eq_false_iff_ne]
     intro e
     rw[e]at hf
     cases hf
    rw[h11]
    simp only[cond_false]
    have hin:=inf_bounds c.op
    have htk:takesL c=((if c.op=29 then c.a.toNat else(ofL c.op).1.i.toNat:Nat):Int):=by
     unfold takesL
     by_cases e:c.op=29
     ·rw[if_pos e,show(c.op==29)=true by simpa using e,cond_true]
      omega
     ·rw[if_neg e,show(c.op==29)=false by simpa using e,cond_false]
      omega
    have hl:(if c.op=29 then c.a.toNat else(ofL c.op).1.i.toNat)≤s.nxt.stk.length:=by
     show _≤s.stk.length
     omega
    have hg:=go_res s.nxt p c.op c.a.toNat h0 h1 hb he hf hl
    rw[h]at hg
    rcases hg with hg|hg
    ·exact .inl hg
    ·obtain⟨g1,g2,g3⟩:=nxt_eff hg
     refine .inr ⟨List.mem_singleton.2 g1,?_,by omega⟩
     have hl:(if c.op=29 then c.a.toNat else(ofL c.op).1.i.toNat)≤s.stk.length:=hl
     rw[g2,htk]
     omega
structure Fr (s s':MS):Prop where
 steps:s'.steps=s.steps
 events:s'.events=s.events
 taken:s'.taken=s.taken
 input:s'.input=s.input
 now:s'.now=s.now
 asked:s'.asked=s.asked
 begun:s'.begun=s.begun
 places:s'.places.length=s.places.length
theorem Fr.trans {a b c:MS}(h:Fr a b)(k:Fr b c):Fr a c:=⟨k.steps.trans h.steps,k.events.trans h.events,k.taken.trans h.taken,k.input.trans h.input,k.now.trans h.now,k.asked.trans h.asked,k.begun.trans h.begun,k.places.trans h.places⟩
theorem fr_fall (s:MS)(why:ByteArray):Fr s (s.fall why):=⟨rfl,rfl,rfl,rfl,rfl,rfl,rfl,rfl⟩
theorem fr_push (s:MS)(v:Val):Fr s (s.push v):=⟨rfl,rfl,rfl,rfl,rfl,rfl,rfl,rfl⟩
theorem fr_put (s:MS)(v:Val):Fr s (s.put v):=by
 unfold MS.put
 split
 ·exact fr_fall _ _
 ·exact fr_push _ _
theorem fr_arith (s:MS)(op:Int)(a b:Val):Fr s (s.arith op a b):=by
 unfold MS.arith
 split
 ·exact fr_fall _ _
 ·exact fr_push _ _
theorem fr_two (s:MS)(op:Int)(a b:Val):Fr s (s.two op a b):=by
 unfold MS.two
 repeat' split
 all_goals first|exact fr_push _ _|exact fr_fall _ _|exact fr_put _ _|exact fr_arith _ _ _ _
theorem fr_reckon (s:MS)(op:Int)(k:Nat):Fr s (s.reckon op k):=by
 unfold MS.reckon
 repeat' split
 all_goals first|exact⟨rfl,rfl,rfl,rfl,rfl,rfl,rfl,rfl⟩|exact Fr.trans (b:=s.pop.pop) ⟨rfl,rfl,rfl,rfl,rfl,rfl,rfl,rfl⟩ (fr_two _ _ _ _)|exact Fr.trans (b:={s with stk:=s.stk.take (s.stk.length - k)}) ⟨rfl,rfl,rfl,rfl,rfl,rfl,rfl,rfl⟩ (fr_put _ _)
theorem fr_begin (s:MS)(op:Int)(name:ByteArray):Fr s (s.begin_ op name):=by
 unfold MS.begin_
 dsimp only
 split
 ·split
  ·exact⟨rfl,rfl,rfl,rfl,rfl,rfl,rfl,rfl⟩
  ·rename_i i _
   cases(s.timers.list[i]?.getD ⟨0,false,vNil0,0⟩).over<;>exact⟨rfl,rfl,rfl,rfl,rfl,rfl,rfl,rfl⟩
 ·repeat' split
  all_goals exact⟨rfl,rfl,rfl,rfl,rfl,rfl,rfl,rfl⟩
theorem fr_wait {s s':MS}{op:Int}{name:ByteArray}(h:s.wait op name=some s'):Fr s s':=by
 unfold MS.wait at h
 split at h
 ·cases hf:findLt name s.letters with
  |none=>rw[hf]at h;cases h
  |some i=>rw[hf]at h;cases h;exact⟨rfl,rfl,rfl,rfl,rfl,rfl,rfl,rfl⟩
 ·dsimp only at h
  split at h
  ·cases h;exact⟨rfl,rfl,rfl,rfl,rfl,rfl,rfl,rfl⟩
  ·split at h
   ·cases h;exact⟨rfl,rfl,rfl,rfl,rfl,rfl,rfl,rfl⟩
   ·rename_i i _ _ _
    cases hov:((if op=21 then s.acts.list else s.timers.list)[i]?.getD ⟨0,false,vNil0,0⟩).over with
    |false=>rw[hov]at h;cases h
    |true=>
     rw[hov]at h
     simp only[Bool.not_true,cond_false,Option.some.injEq]at h
     subst h
     repeat' split
     all_goals exact⟨rfl,rfl,rfl,rfl,rfl,rfl,rfl,rfl⟩
theorem fr_end (s:MS)(op:Int)(name:ByteArray):Fr s (s.end_ op name):=by
 unfold MS.end_
 repeat' split
 all_goals exact⟨rfl,rfl,rfl,rfl,rfl,rfl,rfl,rfl⟩
theorem fr_ite {s a b:MS}{c:Prop}[Decidable c](ha:Fr s a)(hb:Fr s b):Fr s (if c then a else b):=by
 split
 ·exact ha
 ·exact hb
theorem fr_go (s:MS)(p:Img)(op:Int)(k:Nat):Fr s (s.go p op k):=by
 unfold MS.go
 dsimp only
 repeat' (first|exact fr_begin _ _ _|exact fr_reckon _ _ _|refine fr_ite ?_ ?_)
 all_goals try(cases findLt (p.names[k]?.getD ⟨#[]⟩) s.letters)
 all_goals first|exact⟨rfl,rfl,rfl,rfl,rfl,rfl,rfl,rfl⟩|exact⟨rfl,rfl,rfl,rfl,rfl,rfl,rfl,List.length_set⟩|exact fr_begin _ _ _|exact fr_reckon _ _ _
theorem step_frame {p:Img}{s s':MS}(h:stepM p s=some s'):Fr s s':=by
 unfold stepM at h
 dsimp only at h
 cases hb:(ofL (p.code[s.at_]?.getD ⟨0,0⟩).op).1.blocks with
 |true=>rw[hb]at h;exact fr_wait h
 |false=>
  rw[hb]at h
  simp only[cond_false]at h
  cases he:(ofL (p.code[s.at_]?.getD ⟨0,0⟩).op).1.ends with
  |true=>rw[he]at h;cases h;exact fr_end _ _ _
  |false=>
   rw[he]at h
   simp only[cond_false]at h
   cases hf:(ofL (p.code[s.at_]?.getD ⟨0,0⟩).op).1.flow with
   |true=>
    rw[hf]at h
    cases h
    cases((p.code[s.at_]?.getD ⟨0,0⟩).op==11)
    ·cases trueV s.top<;>exact⟨rfl,rfl,rfl,rfl,rfl,rfl,rfl,rfl⟩
    ·exact⟨rfl,rfl,rfl,rfl,rfl,rfl,rfl,rfl⟩
   |false=>
    rw[hf]at h
    cases h
    exact Fr.trans (b:=s.nxt) ⟨rfl,rfl,rfl,rfl,rfl,rfl,rfl,rfl⟩ (fr_go _ _ _ _)
end Go.Va
namespace Go.Va
open Go.Own Go.RowKit
open Go.Proofs.YtakljipkaoahnaaGreatDoor
def At (fa:Fa)(s:MS):Prop:=fa.heights[s.at_]? =some (s.stk.length:Int)
def meas (p:Img)(fa:Fa)(s:MS):Int:=(spF p.code (p.code.length+1) s.at_:Nat)+fa.span*(pot s:Nat)
theorem at_code {p:Img}{fa:Fa}(K:Known p fa){s:MS}(R:At fa s):∃c,p.code[s.at_]? =some c∧0≤c.op∧c.op<33∧0≤c.a∧takesL c≤s.stk.length∧(ofL c.op).2=true∧c.a<mostL p (ofL c.op).1.operand:=by
 have h0:(0:Int)≤s.stk.length:=Int.natCast_nonneg _
 obtain⟨c,h1,h2,h3,h4,_,_,_,_,h6,_⟩:=K.step R h0 (run:=fa.span - (spF p.code (p.code.length+1) s.at_:Nat)) (by omega)
 have hm:=(imgL_ok K.img).2.2.2.2.2.2.2.2 c (zmg h1)
 have hr:0≤c.op∧c.op<33:=by
  by_cases h:0≤c.op∧c.op<33
  ·exact h
  ·exfalso
   have e:∀j:Int,0≤j→j≤32→(c.op==j)=false:=fun j h1 h2=>by rw[beq_eq_false_iff_ne];omega
   have:(ofL c.op).2=false:=by
    simp only[ofL,waitsL,e 0 (by decide) (by decide),e 1 (by decide) (by decide),e 2 (by decide) (by decide),e 3 (by decide) (by decide),e 4 (by decide) (by decide),e 5 (by decide) (by decide),e 6 (by decide) (by decide),e 7 (by decide) (by decide),e 8 (by decide) (by decide),e 9 (by decide) (by decide),e 10 (by decide) (by decide),e 11 (by decide) (by decide),e 12 (by decide) (by decide),e 13 (by decide) (by decide),e 14 (by decide) (by decide),e 15 (by decide) (by decide),e 16 (by decide) (by decide),e 17 (by decide) (by decide),e 18 (by decide) (by decide),e 19 (by decide) (by decide),e 20 (by decide) (by decide),e 21 (by decide) (by decide),e 22 (by decide) (by decide),e 23 (by decide) (by decide),e 24 (by decide) (by decide),e 25 (by decide) (by decide),e 26 (by decide) (by decide),e 27 (by decide) (by decide),e 28 (by decide) (by decide),e 29 (by decide) (by decide),e 30 (by decide) (by decide),e 31 (by decide) (by decide),e 32 (by decide) (by decide),cond_false]
   rw[h2]at this
   cases this
 exact⟨c,h1,hr.1,hr.2,h3,h6,h2,hm.2.2⟩
theorem span_pos {p:Img}{fa:Fa}(K:Known p fa){s:MS}(R:At fa s):1≤(spF p.code (p.code.length+1) s.at_:Nat)∧((spF p.code (p.code.length+1) s.at_:Nat):Int)≤fa.span:=
 ⟨spF_pos (K.dn _ _ R (Int.natCast_nonneg _)),K.span _ _ R (Int.natCast_nonneg _)⟩
theorem step_meas {p:Img}{fa:Fa}(K:Known p fa){s s':MS}(R:At fa s)(h:stepM p s=some s'):s'.over=true∨(At fa s'∧meas p fa s'+1≤meas p fa s):=by
 obtain⟨c,hc,h0,h1,ha,hh,_,_⟩:=at_code K R
 rcases step_res hc h0 h1 ha hh h with h2|⟨h2,h3,h4⟩
 ·exact .inl h2
 ·have hp:=span_pos K R
  obtain⟨c',hc',_,_,_,_,_,_,_,_,_,hx⟩:=K.step R (Int.natCast_nonneg _) (run:=fa.span - (spF p.code (p.code.length+1) s.at_:Nat)) (by omega)
  rw[hc]at hc'
  cases hc'
  obtain⟨_,h',e1,e2,_,_,e3⟩:=hx _ h2
  refine .inr ⟨by unfold At;rw[e2,e1,h3],?_⟩
  unfold meas
  have hsp:0≤fa.span:=by omega
  cases hr:restsL c with
  |true=>
   rw[hr]at e3 h4
   simp only[cond_true]at e3 h4
   have hm:fa.span*((pot s':Nat):Int)+fa.span≤fa.span*((pot s:Nat):Int):=by
    rw[show fa.span*((pot s':Nat):Int)+fa.span=fa.span*(((pot s':Nat):Int)+1) by rw[Int.mul_add,Int.mul_one]]
    exact Int.mul_le_mul_of_nonneg_left (by omega) hsp
   omega
  |false=>
   rw[hr]at e3 h4
   simp only[cond_false]at e3 h4
   have hm:fa.span*((pot s':Nat):Int)≤fa.span*((pot s:Nat):Int):=Int.mul_le_mul_of_nonneg_left (by omega) hsp
   omega
theorem meas_pos {p:Img}{fa:Fa}(K:Known p fa){s:MS}(R:At fa s):1≤meas p fa s:=by
 have h:=span_pos K R
 have:0≤fa.span*((pot s:Nat):Int):=Int.mul_nonneg (by omega) (Int.natCast_nonneg _)
 unfold meas
 omega
theorem run_law {p:Img}{fa:Fa}(K:Known p fa):∀(f:Nat) (s:MS),(s.over=false→At fa s∧meas p fa s≤f)→
  ((runM p f s).over=true∨(At fa (runM p f s)∧stepM p (runM p f s)=none))∧((s.over=true∧runM p f s=s)∨(s.over=false∧((runM p f s).steps:Int)≤s.steps+meas p fa s)):=by
 intro f
 induction f with
 |zero=>
  intro s h
  have e:runM p 0 s=s:=rfl
  rw[e]
  by_cases ho:s.over=true
  ·exact⟨.inl ho,.inl ⟨ho,rfl⟩⟩
  ·have ho:s.over=false:=by simpa using ho
   obtain⟨h1,h2⟩:=h ho
   have:=meas_pos K h1
   omega
 |succ f ih=>
  intro s h
  by_cases ho:s.over=true
  ·have e:runM p (f+1) s=s:=by rw[runM,ho];rfl
   rw[e]
   exact⟨.inl ho,.inl ⟨ho,rfl⟩⟩
  ·have ho:s.over=false:=by simpa using ho
   obtain⟨h1,h2⟩:=h ho
   have hp:=meas_pos K h1
   cases hs:stepM p s with
   |none=>
    have e:runM p (f+1) s=s:=by rw[runM,ho,hs];rfl
    rw[e]
    exact⟨.inr ⟨h1,hs⟩,.inr ⟨ho,by omega⟩⟩
   |some s'=>
    have e:runM p (f+1) s=runM p f {s' with steps:=s'.steps+1}:=by rw[runM,ho,hs];rfl
    rw[e]
    have hst:s'.steps=s.steps:=(step_frame hs).steps
    rcases step_meas K h1 hs with h3|⟨h3,h4⟩
    ·obtain⟨i1,i2⟩:=ih {s' with steps:=s'.steps+1} (fun e=>by rw[show({s' with steps:=s'.steps+1}:MS).over=s'.over from rfl,h3]at e;cases e)
     rcases i2 with⟨_,i2⟩|⟨i2,_⟩
     ·refine⟨i1,.inr ⟨ho,?_⟩⟩
      rw[i2]
      show((s'.steps+1:Nat):Int)≤_
      omega
     ·rw[show({s' with steps:=s'.steps+1}:MS).over=s'.over from rfl,h3]at i2
      cases i2
    ·have hm:meas p fa {s' with steps:=s'.steps+1}=meas p fa s':=rfl
     obtain⟨i1,i2⟩:=ih {s' with steps:=s'.steps+1} (fun _=>⟨h3,by rw[hm];omega⟩)
     refine⟨i1,.inr ⟨ho,?_⟩⟩
     rcases i2 with⟨_,i2⟩|⟨_,i2⟩
     ·rw[i2]
      show((s'.steps+1:Nat):Int)≤_
      have:=meas_pos K h3
      omega
     ·rw[hm]at i2
      have i2:_≤((s'.steps+1:Nat):Int)+_:=i2
      omega
def fuel (p:Img)(s:MS):Nat:=(p.code.length+1)*(pot s+1)
theorem span_le {p:Img}{fa:Fa}{a:Int}(h:checkG p=(fa,a,0)):fa.span≤p.code.length+1:=by
 unfold checkG at h
 have hno:noFa.span≤(p.code.length:Int)+1:=by show(0:Int)≤_;omega
 cases h1:(imgL p !=0)with
 |true=>
  rw[h1]at h
  simp only[cond_true,Prod.mk.injEq]at h
  rw[←h.1];exact hno
 |false=>
  rw[h1]at h
  simp only[cond_false]at h
  cases h2:((walkL p.code).1.2 !=0)with
  |true=>
   rw[h2]at h
   simp only[cond_true,Prod.mk.injEq]at h
   rw[←h.1];exact hno
  |false=>
   rw[h2]at h
   simp only[cond_false]at h
   cases h3:firstR p.code 0 (walkL p.code).2.heights with
   |some k=>
    rw[h3]at h
    simp only[Prod.mk.injEq]at h
    rw[←h.1];exact hno
   |none=>
    rw[h3]at h
    simp only[Prod.mk.injEq]at h
    rw[←h.1]
    have:=spanM_le (code:=p.code) (B:=p.code.length+1) (walkL p.code).2.heights 0 0 (Nat.zero_le _) (fun j h _ _=>spF_le _ _ _)
    show((spanM p.code 0 (walkL p.code).2.heights 0:Nat):Int)≤_
    omega
theorem meas_fuel {p:Img}{fa:Fa}{s:MS}(hs:fa.span≤p.code.length+1):meas p fa s≤fuel p s:=by
 unfold meas fuel
 have h1:=spF_le p.code (p.code.length+1) s.at_
 have h2:fa.span*((pot s:Nat):Int)≤(p.code.length+1)*((pot s:Nat):Int):=Int.mul_le_mul_of_nonneg_right hs (Int.natCast_nonneg _)
 have h3:(((p.code.length+1)*(pot s+1):Nat):Int)=(p.code.length+1)*((pot s:Nat):Int)+(p.code.length+1):=by
  rw[Nat.mul_add_one,Int.natCast_add,Int.natCast_mul]
  rfl
 omega
end Go.Va
namespace Go.Va
open Go.Own Go.RowKit
def evHas (k:Int):Option (Bool×Bool×Bool×Bool×Bool):=
 if k=1 then some (true,true,true,true,true)else if k=2 then some (false,true,false,false,false)else if k=3 then some (true,true,false,false,false)else if k=4 then some (true,true,false,false,false)else
 if k=5 then some (false,true,false,false,false)else if k=6 then some (false,true,true,false,false)else if k=7 then some (true,true,true,false,true)else if k=8 then some (true,false,false,false,true)else
 if k=9 then some (true,false,true,false,false)else if k=10 then some (true,false,false,false,false)else if k=11 then some (true,true,false,false,false)else if k=12 then some (true,false,false,false,false)else
 if k=13 then some (true,false,false,false,false)else if k=14 then some (false,false,true,false,true)else if k=15 then some (false,false,false,false,false)else if k=16 then some (false,false,false,false,true)else
 if k=17 then some (false,false,true,false,false)else if k=18 then some (false,false,false,false,false)else if k=19 then some (false,false,true,false,false)else if k=20 then some (false,false,false,false,false)else
 if k=21 then some (false,true,false,false,true)else none
def evOut (k:Int):Bool:=decide (k=1∨k=8∨k=9∨k=10∨k=12∨k=14∨k=15∨k=19∨k=20)
def evCh (k id t a b:Int)(n m:Nat)(vk cl:Int):Int:=
 match evHas k with
 |none=>9
 |some (hA,hB,hN,hT,hV)=>
  if id<1∨1048576<id∨t<0∨4611686018427387903<t then 1 else
  if a<0∨b<0∨(hA=false∧a≠0)∨(hB=false∧b≠0)then 1 else
  if 64<n∨128<m then 2 else
  if(hN=false∧n≠0)∨(hT=false∧m≠0)then 8 else
  if hV=false∧vk≠0 then 8 else cl
end Go.Va
namespace Go.Va
open Go.Own Go.RowKit
open Go.Proofs.YtakljipkaoahnaaGreatDoor
def evCheck (e:Ev):Int:=
 match evHas e.kind with
 |none=>9
 |some (hA,hB,hN,hT,hV)=>
  if e.id<1∨1048576<e.id∨e.time<0∨4611686018427387903<e.time then 1 else
  if e.a<0∨e.b<0∨(hA=false∧e.a≠0)∨(hB=false∧e.b≠0)then 1 else
  if 64<e.name.size∨128<e.text.size then 2 else
  if(hN=false∧e.name.size≠0)∨(hT=false∧e.text.size≠0)then 8 else
  if hV=false∧e.v.kind≠0 then 8 else checkL e.v
def hear (s:MS)(e:Ev):MS:=
 if e.kind=1 then{s with begun:=true,input:=cloneV e.v}else
 if e.kind=12 then{s with timers:=⟨endT e.a 1 vNil0 s.timers.list,s.timers.next⟩}else
 if e.kind=8 then{s with acts:=⟨endT e.a 1 e.v s.acts.list,s.acts.next⟩}else
 if e.kind=9 then{s with acts:=⟨endT e.a 0 (vText e.name) s.acts.list,s.acts.next⟩}else
 if e.kind=10 then{s with acts:=⟨endT e.a (-1) vNil0 s.acts.list,s.acts.next⟩}else
 if e.kind=14 then{s with letters:=s.letters++[⟨e.name,cloneV e.v⟩]}else
 if e.kind=15 then{s with asked:=true}else{s with over:=true}
def runF (p:Img)(s:MS):MS:=runM p (fuel p s) s
def applyM (p:Img)(s:MS)(e:Ev):Int×MS:=
 if evCheck e≠0∨evOut e.kind=false then(9,s)else if s.over=true then(181,s)else if s.begun=(e.kind==1)then(7,s)else
 (0,runF p (hear {s with now:=e.time,steps:=0,events:=s.events+1} e))
def ms0 (p:Img):MS:=⟨[],List.replicate p.places.toNat vNil0,0,vNil0,0,⟨[],0⟩,⟨[],0⟩,[],false,false,false,⟨#[]⟩,[],0,0,0⟩
theorem overs_end (id how:Int)(v:Val):∀l:List Th,overs (endT id how v l)≤overs l+1
 |[]=>by simp[endT,overs]
 |x::r=>by
  rw[endT]
  split
  ·cases hx:x.over with
   |true=>simp only[cond_true];omega
   |false=>simp only[cond_false,overs,cond_true,hx];omega
  ·rw[overs,overs]
   have:=overs_end id how v r
   omega
structure Good (p:Img)(fa:Fa)(s:MS):Prop where
 at_:s.over=false→At fa s
 wait:s.over=false→s.begun=true→stepM p s=none
 pot:s.over=false→Go.Va.pot s≤s.events
 steps:(s.steps:Int)≤fa.span*((s.events:Int)+1)
theorem good0 {p:Img}{fa:Fa}(K:Known p fa):Good p fa (ms0 p):=by
 have h0:At fa (ms0 p):=K.zero
 have hs:=(span_pos K h0)
 refine⟨fun _=>h0,(fun _ h=>by cases h),fun _=>Nat.le_refl _,?_⟩
 show(0:Int)≤fa.span*((0:Int)+1)
 omega
theorem hear_at {fa:Fa}{s:MS}(e:Ev)(h:At fa s):At fa (hear s e):=by
 unfold hear
 repeat' split
 all_goals exact h
theorem hear_pot (s:MS)(e:Ev):pot (hear s e)≤pot s+1∧(hear s e).events=s.events∧(hear s e).steps=s.steps:=by
 unfold hear
 have h1:=fun how v=>overs_end e.a how v s.timers.list
 have h2:=fun how v=>overs_end e.a how v s.acts.list
 split
 ·exact⟨Nat.le_succ _,rfl,rfl⟩
 ·split
  ·refine⟨?_,rfl,rfl⟩
   have:=h1 1 vNil0
   show s.letters.length+(overs (endT e.a 1 vNil0 s.timers.list)+overs s.acts.list)≤s.letters.length+(overs s.timers.list+overs s.acts.list)+1
   omega
  ·split
   ·refine⟨?_,rfl,rfl⟩
    have:=h2 1 e.v
    show s.letters.length+(overs s.timers.list+overs (endT e.a 1 e.v s.acts.list))≤s.letters.length+(overs s.timers.list+overs s.acts.list)+1
    omega
   ·split
    ·refine⟨?_,rfl,rfl⟩
     have:=h2 0 (vText e.name)
     show s.letters.length+(overs s.timers.list+overs (endT e.a 0 (vText e.name) s.acts.list))≤s.letters.length+(overs s.timers.list+overs s.acts.list)+1
     omega
    ·split
     ·refine⟨?_,rfl,rfl⟩
      have:=h2 (-1) vNil0
      show s.letters.length+(overs s.timers.list+overs (endT e.a (-1) vNil0 s.acts.list))≤s.letters.length+(overs s.timers.list+overs s.acts.list)+1
      omega
     ·split
      ·refine⟨?_,rfl,rfl⟩
       show(s.letters++[_]).length+(overs s.timers.list+overs s.acts.list)≤s.letters.length+(overs s.timers.list+overs s.acts.list)+1
       rw[List.length_append,List.length_singleton]
       omega
      ·split
       ·exact⟨Nat.le_succ _,rfl,rfl⟩
       ·exact⟨Nat.le_succ _,rfl,rfl⟩
theorem run_keep (p:Img):∀(f:Nat) (s:MS),(runM p f s).events=s.events∧(runM p f s).begun=s.begun∧(runM p f s).now=s.now
 |0,_=>⟨rfl,rfl,rfl⟩
 |f+1,s=>by
  rw[runM]
  cases s.over with
  |true=>exact⟨rfl,rfl,rfl⟩
  |false=>
   simp only[cond_false]
   cases hs:stepM p s with
   |none=>exact⟨rfl,rfl,rfl⟩
   |some s'=>
    have h:=step_frame hs
    obtain⟨h1,h2,h3⟩:=run_keep p f {s' with steps:=s'.steps+1}
    exact⟨h1.trans h.events,h2.trans h.begun,h3.trans h.now⟩
theorem run_pot {p:Img}{fa:Fa}(K:Known p fa):∀(f:Nat) (s:MS),(s.over=false→At fa s)→(runM p f s).over=false→pot (runM p f s)≤pot s
 |0,_,_,_=>Nat.le_refl _
 |f+1,s,hA,h=>by
  by_cases ho:s.over=true
  ·have e:runM p (f+1) s=s:=by rw[runM,ho];rfl
   rw[e]
   exact Nat.le_refl _
  ·have ho:s.over=false:=by simpa using ho
   cases hs:stepM p s with
   |none=>
    have e:runM p (f+1) s=s:=by rw[runM,ho,hs];rfl
    rw[e]
    exact Nat.le_refl _
   |some s'=>
    have e:runM p (f+1) s=runM p f {s' with steps:=s'.steps+1}:=by rw[runM,ho,hs];rfl
    rw[e]at h⊢
    obtain⟨c,hc,h0,h1,ha,hh,_,_⟩:=at_code K (hA ho)
    rcases step_res hc h0 h1 ha hh hs with h2|⟨h2,h3,h4⟩
    ·have ho2:({s' with steps:=s'.steps+1}:MS).over=true:=h2
     cases f with
     |zero=>rw[show runM p 0 {s' with steps:=s'.steps+1}={s' with steps:=s'.steps+1}from rfl,ho2]at h;cases h
     |succ f=>
      have e2:runM p (f+1) {s' with steps:=s'.steps+1}={s' with steps:=s'.steps+1}:=by rw[runM,ho2];rfl
      rw[e2,ho2]at h
      cases h
    ·have hA':At fa s':=by
      rcases step_meas K (hA ho) hs with h5|⟨h5,_⟩
      ·have ho2:({s' with steps:=s'.steps+1}:MS).over=true:=h5
       cases f with
       |zero=>rw[show runM p 0 {s' with steps:=s'.steps+1}={s' with steps:=s'.steps+1}from rfl,ho2]at h;cases h
       |succ f=>
        have e2:runM p (f+1) {s' with steps:=s'.steps+1}={s' with steps:=s'.steps+1}:=by rw[runM,ho2];rfl
        rw[e2,ho2]at h
        cases h
      ·exact h5
     have:=run_pot K f {s' with steps:=s'.steps+1} (fun _=>hA') h
     have e3:pot ({s' with steps:=s'.steps+1}:MS)=pot s':=rfl
     omega
theorem apply_good {p:Img}{fa:Fa}(K:Known p fa)(hsp:fa.span≤p.code.length+1){s:MS}(G:Good p fa s)(e:Ev):Good p fa (applyM p s e).2:=by
 unfold applyM
 split
 ·exact G
 ·split
  ·exact G
  ·rename_i ho
   have ho:s.over=false:=by simpa using ho
   split
   ·exact G
   ·obtain⟨s0,hs0⟩:∃s0:MS,s0={s with now:=e.time,steps:=0,events:=s.events+1}:=⟨_,rfl⟩
    have hA0:At fa s0:=by rw[hs0];exact G.at_ ho
    have hp0:pot s0≤s.events:=by rw[hs0];exact G.pot ho
    have he0:s0.events=s.events+1:=by rw[hs0]
    have hs1:s0.steps=0:=by rw[hs0]
    rw[←hs0]
    show Good p fa (runF p (hear s0 e))
    have hA1:=hear_at e hA0
    obtain⟨q1,q2,q3⟩:=hear_pot s0 e
    obtain⟨s1,he⟩:∃s1,hear s0 e=s1:=⟨_,rfl⟩
    rw[he]at hA1 q1 q2 q3⊢
    unfold runF
    have hR:=run_law K (fuel p s1) s1 (fun _=>⟨hA1,meas_fuel hsp⟩)
    have hk:=run_keep p (fuel p s1) s1
    have hP:=run_pot K (fuel p s1) s1 (fun _=>hA1)
    have hsp1:=span_pos K hA1
    have hev:(runM p (fuel p s1) s1).events=s.events+1:=by rw[hk.1,q2,he0]
    refine⟨fun h=> ?_,fun h _=> ?_,fun h=> ?_,?_⟩
    ·rcases hR.1 with h1|h1
     ·rw[h1]at h;cases h
     ·exact h1.1
    ·rcases hR.1 with h1|h1
     ·rw[h1]at h;cases h
     ·exact h1.2
    ·have:=hP h
     omega
    ·rw[hev]
     have hspan:(0:Int)≤fa.span:=by omega
     rcases hR.2 with⟨_,h1⟩|⟨_,h1⟩
     ·rw[h1,q3,hs1]
      show(0:Int)≤fa.span*(((s.events+1:Nat):Int)+1)
      exact Int.mul_nonneg hspan (by omega)
     ·rw[q3,hs1]at h1
      have hm:meas p fa s1≤fa.span*(((s.events+1:Nat):Int)+1):=by
       unfold meas
       have h2:fa.span*((pot s1:Nat):Int)≤fa.span*((s.events+1:Nat):Int):=Int.mul_le_mul_of_nonneg_left (by omega) hspan
       rw[Int.mul_add,Int.mul_one]
       omega
      omega
end Go.Va
namespace Go.Va
open Go.Own Go.RowKit Go.Own.MapTy
theorem clone_kind (x:Val):(cloneV x).kind=x.kind:=by rw[cloneV_eq];rfl
theorem clone_num (x:Val):(cloneV x).num=bif x.kind==1 then x.num else 0:=by rw[cloneV_eq];rfl
theorem clone_txt (x:Val):(cloneV x).txt=bif x.kind==2 then x.txt else⟨#[]⟩:=by rw[cloneV_eq];rfl
theorem clone_list (x:Val):(cloneV x).list=bif x.kind==3 then x.list.map cloneV else[]:=by rw[cloneV_eq,cloneL_map];rfl
mutual
theorem bytes_clone:∀x:Val,bytesV (cloneV x)=bytesV x
 | .mk k n s l=>by
   have h:=bytes_cloneL l
   rw[bytesV_eq,bytesV_eq (.mk k n s l),clone_kind,clone_num,clone_txt,clone_list]
   show _::(bif k==1 then numB (zigL (bif k==1 then n else 0))else bif k==2 then Go.Va.textB (bif k==2 then s else _).data.toList else bif k==3 then numB (bif k==3 then l.map cloneV else[]).length++bytesV.bytesL (bif k==3 then l.map cloneV else[])else[])=_::(bif k==1 then numB (zigL n)else bif k==2 then Go.Va.textB s.data.toList else bif k==3 then numB l.length++bytesV.bytesL l else[])
   congr 1
   cases h1:(k==1)
   ·cases h2:(k==2)
    ·cases h3:(k==3)
     ·rfl
     ·simp only[cond_true,cond_false,List.length_map];rw[h]
    ·rfl
   ·rfl
theorem bytes_cloneL:∀l:List Val,bytesV.bytesL (l.map cloneV)=bytesV.bytesL l
 |[]=>rfl
 |x::r=>by
  have h1:=bytes_clone x
  have h2:=bytes_cloneL r
  rw[List.map_cons,bytesL_cons,bytesL_cons,h1,h2]
end
end Go.Va
namespace Go.Proofs.YtakljipkaoahnaaGreatDoor
open Go.RowKit Go.Own Go.Own.MapTy Go.Va Go.Sort
def argS (p:Img)(L:List (Int×ByteArray))(o:Int)(a:Nat):ByteArray:=
 bif o==1 then printV (p.consts[a]?.getD vNil)else bif o==2 then quoteB (p.names[a]?.getD ⟨#[]⟩)else bif o==4 then(MapTy.get L (a:Int)).getD ⟨#[]⟩else itoaB (a:Int)
def argP (p:Img)(L:List (Int×ByteArray))(o:Int)(a:Nat):List UInt8:=
 bif o==1||(o==2||(o==4||(o==3||o==5)))then(⟨#[32]⟩++argS p L o a:ByteArray).data.toList else[]
def headP (L:List (Int×ByteArray))(i:Nat):List UInt8:=match MapTy.get L (i:Int)with
 |some s=>(s++⟨#[58,10]⟩).data.toList
 |none=>[]
def lineP (p:Img)(L:List (Int×ByteArray))(i:Nat)(c:In):List UInt8:=
 headP L i++((⟨#[32,32]⟩++(ofL c.op).1.name:ByteArray).data.toList++(argP p L (ofL c.op).1.operand c.a.toNat++[10]))
def codeP (p:Img)(L:List (Int×ByteArray)):Nat→List In→List UInt8
 |_,[]=>[]
 |i,c::r=>lineP p L i c++codeP p L (i+1) r
mutual
theorem szV_bytes:∀x:Val,szV x+1≤34*(bytesV x).length
 | .mk k n s l=>by
   rw[szV,bytesV]
   cases h2:(k==2)with
   |true=>
    obtain rfl:k=2:=by simpa using h2
    have h1:1≤(numB s.data.toList.length).length:=by
     unfold numB
     rw[numF]
     cases decide (128≤s.data.toList.length)<;>simp
    show 4*s.size+30+1≤34*((Go.Va.textB s.data.toList).length+1)
    unfold Go.Va.textB
    have e:s.data.toList.length=s.size:=by simp
    rw[List.length_append]
    omega
   |false=>
    cases h3:(k==3)with
    |true=>
     obtain rfl:k=3:=by simpa using h3
     have h:=szL_bytes l
     show szV.szL l+30+1≤34*((numB l.length++bytesV.bytesL l).length+1)
     rw[List.length_append]
     omega
    |false=>simp;omega
theorem szL_bytes:∀l:List Val,szV.szL l≤34*(bytesV.bytesL l).length
 |[]=>by rw[szV.szL,bytesV.bytesL];simp
 |x::r=>by
  rw[szV.szL,bytesV.bytesL,List.length_append]
  have h1:=szV_bytes x
  have h2:=szL_bytes r
  omega
end
theorem check_len {x:Val}(h:checkL x=0):(bytesV x).length≤512:=by
 unfold checkL at h
 cases h1:((walkV x 0 (0,0)).2 !=0)with
 |true=>rw[h1]at h;simp at h h1;exact absurd h h1
 |false=>
  rw[h1]at h
  cases h2:decide (512<(bytesV x).length)with
  |true=>rw[h2]at h;simp at h
  |false=>rw[decide_eq_false_iff_not]at h2;omega
theorem consts_ok:∀{l:List Val},constErr l=0→∀x∈l,checkL x=0
 |[],_,x,h=>by cases h
 |y::r,hc,x,h=>by
  rw[constErr]at hc
  cases h1:(checkL y !=0)with
  |true=>rw[h1]at hc;simp at hc h1;exact absurd hc h1
  |false=>
   rw[h1]at hc
   rcases List.mem_cons.1 h with rfl|h
   ·simpa using h1
   ·exact consts_ok hc x h
theorem names_ok:∀{l:List ByteArray},nameErr l=0→∀x∈l,x.size≤64
 |[],_,x,h=>by cases h
 |y::r,hc,x,h=>by
  rw[nameErr]at hc
  cases h1:decide (64<y.size)with
  |true=>rw[h1]at hc;simp at hc
  |false=>
   rw[h1]at hc
   rcases List.mem_cons.1 h with rfl|h
   ·rw[decide_eq_false_iff_not]at h1;omega
   ·exact names_ok hc x h
theorem const_sz {p:Img}(h:imgL p=0)(x:Val)(hx:x∈p.consts):szV x≤20000:=by
 have h1:=check_len (consts_ok (imgL_ok h).2.2.2.2.2.2.1 x hx)
 have h2:=szV_bytes x
 omega
end Go.Proofs.YtakljipkaoahnaaGreatDoor
namespace Go.Proofs.YtakljipkaoahnaaGreatDoor
open Go.RowKit Go.Own Go.Own.MapTy Go.Va Go.Sort
open Go.Own.Cells (sz enc)
structure PrSt (F:Nat→Prop)(N:Nat)(w W:World)(bx mb:Nat)(i:IC)(p:Img):Prop where
 below:Below w.heap.size w W
 img:IAt F W i p
 gl:Gl Tryz.prog N W
 lab:MapAt LM W mb (labsL p.code)
 box:∀o,W.cell? ⟨bx,o,none⟩=(#[.slice i.ca i.cn i.cc,.slice i.ka i.kn i.kc,.slice i.na i.nn i.nc,.int .i64 i.pl]:Array Value)[o]?
 bxlt:bx<W.heap.size
 mblt:mb<W.heap.size
 ok:imgL p=0
 wf:∀x∈p.consts,x.wf
def tidyS (p:Img)(c:In)(st:RSt):RSt:=
 bif (ofL c.op).1.operand==1 then
  let q:=addV (cloneV (p.consts[c.a.toNat]?.getD vNil)) st.consts
  {st with consts:=q.2,code:=st.code++[⟨c.op,q.1⟩]}
 else bif (ofL c.op).1.operand==2 then
  let q:=addN (p.names[c.a.toNat]?.getD ⟨#[]⟩) st.names
  {st with names:=q.2,code:=st.code++[⟨c.op,q.1⟩]}
 else bif (ofL c.op).1.operand==3 then{st with places:=max st.places (c.a+1),code:=st.code++[c]}
 else{st with code:=st.code++[c]}
def tidyR (p:Img):List In→RSt→RSt
 |[],st=>st
 |c::r,st=>tidyR p r (tidyS p c st)
end Go.Proofs.YtakljipkaoahnaaGreatDoor
namespace Go.Proofs.YtakljipkaoahnaaGreatDoor
open Go.RowKit Go.Own Go.Own.MapTy Go.Va Go.Sort
inductive Arg where
 |val (x:Val)
 |name (s:ByteArray)
 |place (n:Int)
 |int (n:Int)
def putI (m:Int×Arg)(st:RSt):RSt:=
 match m.2 with
 | .val x=>{st with consts:=(addV x st.consts).2,code:=st.code++[⟨m.1,((addV x st.consts).1:Nat)⟩]}
 | .name s=>{st with names:=(addN s st.names).2,code:=st.code++[⟨m.1,((addN s st.names).1:Nat)⟩]}
 | .place n=>{st with places:=max st.places (n+1),code:=st.code++[⟨m.1,n⟩]}
 | .int n=>{st with code:=st.code++[⟨m.1,n⟩]}
def fitA (m:Int×Arg):Prop:=
 match m.2 with
 | .val _=>(ofL m.1).1.operand=1
 | .name _=>(ofL m.1).1.operand=2
 | .place n=>(ofL m.1).1.operand=3∧0≤n
 | .int _=>(ofL m.1).1.operand≠1∧(ofL m.1).1.operand≠2∧(ofL m.1).1.operand≠3
def tdRun:List In→Int→Int→Int→Option (Int×Int×Int)
 |[],c,n,p=>some (c,n,p)
 |x::r,c,n,p=>
  if(ofL x.op).1.operand=1 then(if c<x.a then none else tdRun r (if x.a=c then c+1 else c) n p)else
  if(ofL x.op).1.operand=2 then(if n<x.a then none else tdRun r c (if x.a=n then n+1 else n) p)else
  if(ofL x.op).1.operand=3 then tdRun r c n (if p<x.a+1 then x.a+1 else p)else tdRun r c n p
structure TdOk (p:Img):Prop where
 run:tdRun p.code 0 0 0=some ((p.consts.length:Int),(p.names.length:Int),p.places)
 consts:∀(i k:Nat) (x y:Val),k<i→p.consts[i]? =some x→p.consts[k]? =some y→cloneV x≠cloneV y
 names:∀(i k:Nat) (x y:ByteArray),k<i→p.names[i]? =some x→p.names[k]? =some y→x≠y
end Go.Proofs.YtakljipkaoahnaaGreatDoor
namespace Go.Va
open Go.Own Go.RowKit Go.Own.MapTy
mutual
theorem walk_clone:∀(x:Val) (d p:Nat) (e:Int),walkV (cloneV x) d (p,e)=walkV x d (p,e)
 | .mk k n s l,d,p,e=>by
   have h:=walk_cloneL l
   rw[walkV_eq,walkV_eq (.mk k n s l),clone_kind,clone_txt,clone_list]
   show(bif e !=0 then(p,e)else bif decide (256≤p)then(p+1,2)else bif k==0||k==1 then(p+1,0)else bif k==2 then(p+1,bif decide (256<(bif k==2 then s else(⟨#[]⟩:ByteArray)).size)then 2 else 0)else bif k==3 then walkV.walkL (bif k==3 then l.map cloneV else[]) (d+1) (p+1,bif decide (8≤d)then 30 else bif decide (64<(bif k==3 then l.map cloneV else[]).length)then 2 else 0)else(p+1,9))=(bif e !=0 then(p,e)else bif decide (256≤p)then(p+1,2)else bif k==0||k==1 then(p+1,0)else bif k==2 then(p+1,bif decide (256<s.size)then 2 else 0)else bif k==3 then walkV.walkL l (d+1) (p+1,bif decide (8≤d)then 30 else bif decide (64<l.length)then 2 else 0)else(p+1,9))
   cases(e !=0)
   ·cases decide (256≤p)
    ·cases(k==0||k==1)
     ·cases(k==2)
      ·cases(k==3)
       ·rfl
       ·simp only[cond_true,cond_false,List.length_map]
        exact h _ _
      ·rfl
     ·rfl
    ·rfl
   ·rfl
theorem walk_cloneL:∀(l:List Val) (d:Nat) (c:Nat×Int),walkV.walkL (l.map cloneV) d c=walkV.walkL l d c
 |[],d,c=>rfl
 |x::r,d,(p,e)=>by
  have h1:=walk_clone x d p e
  have h2:=walk_cloneL r
  rw[List.map_cons,walkL_cons,walkL_cons,h1,h2]
end
theorem check_clone (x:Val):checkL (cloneV x)=checkL x:=by
 unfold checkL
 rw[walk_clone,bytes_clone]
end Go.Va
namespace Go.Proofs.YtakljipkaoahnaaGreatDoor
open Go.RowKit Go.Own Go.Own.MapTy Go.Va Go.Sort
def argOf (p:Img)(c:In):Arg:=
 bif (ofL c.op).1.operand==1 then .val (cloneV (p.consts[c.a.toNat]?.getD vNil))else
 bif (ofL c.op).1.operand==2 then .name (p.names[c.a.toNat]?.getD ⟨#[]⟩)else
 bif (ofL c.op).1.operand==3 then .place c.a else .int c.a
structure PutOk (l:List (Int×Arg))(n:Nat):Prop where
 fit:∀m∈l,fitA m
 op:∀m∈l,(ofL m.1).2=true
 val:∀op x,(op,Arg.val x)∈l→checkL x=0
 int:∀op k,(op,Arg.int k)∈l→0≤k∧k<(if(ofL op).1.operand=4 then(n:Int)else if(ofL op).1.operand=5 then 17 else 1)
def SameAt (p q:Img)(c d:In):Prop:=
 c.op=d.op∧((ofL c.op).1.operand=1→∃(i j:Nat) (x y:Val),c.a=i∧d.a=j∧p.consts[i]? =some x∧q.consts[j]? =some y∧cloneV x=cloneV y)∧
 ((ofL c.op).1.operand=2→∃(i j:Nat) (s:ByteArray),c.a=i∧d.a=j∧p.names[i]? =some s∧q.names[j]? =some s)∧
 ((ofL c.op).1.operand≠0→(ofL c.op).1.operand≠1→(ofL c.op).1.operand≠2→c.a=d.a)
end Go.Proofs.YtakljipkaoahnaaGreatDoor
