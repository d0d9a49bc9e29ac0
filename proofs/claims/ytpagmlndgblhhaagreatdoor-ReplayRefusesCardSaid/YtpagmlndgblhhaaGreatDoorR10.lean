/- Parts of the proof: what the functions and the plain laws give that later parts lean on. Conditions: none beyond those that each theorem names. -/
import Derived.Test.YtpagmlndgblhhaaGreatDoorR9
set_option maxRecDepth 100000
set_option maxHeartbeats 8000000
namespace Go.Va
open Go.Own Go.RowKit
def yan:List Th→Nat
 |[]=>0
 |x::r=>(bif x.over then 1 else 0)+yan r
def pot (s:MS):Nat:=s.letters.length+(yan s.timers.list+yan s.acts.list)
theorem ydO:∀(l r:List Th),yan (l++r)=yan l+yan r
 |[],r=>by simp[yan]
 |x::l,r=>by rw[List.cons_append,yan,yan,ydO l r];omega
theorem ycu:∀(l:List Th) (i:Nat) (x:Th),l[i]? =some x→yan (l.eraseIdx i)+(bif x.over then 1 else 0)=yan l
 |[],_,_,h=>by simp at h
 |y::r,0,x,h=>by
  simp at h;subst h;rw[List.eraseIdx_zero,List.tail_cons,yan];omega
 |y::r,i+1,x,h=>by
  rw[List.eraseIdx_cons_succ,yan,yan];have:=ycu r i x (by simpa using h);omega
theorem findT_some {id:Int}:∀{l:List Th} {i:Nat},yat id l=some i→∃x,l[i]? =some x∧x.id=id
 |[],i,h=>by cases h
 |y::r,i,h=>by
  rw[yat]at h;by_cases he:y.id=id
  ·rw[if_pos he]at h
   cases h;exact⟨y,rfl,he⟩
  ·rw[if_neg he]at h
   cases hf:yat id r with
   |none=>rw[hf]at h;cases h
   |some j=>
    rw[hf]at h;cases h;obtain⟨x,h1,h2⟩:=findT_some hf;exact⟨x,h1,h2⟩
theorem findLt_some {name:ByteArray}:∀{l:List Lt} {i:Nat},yap name l=some i→∃x,l[i]? =some x∧x.name=name
 |[],i,h=>by cases h
 |y::r,i,h=>by
  rw[yap]at h;by_cases he:y.name=name
  ·rw[if_pos he]at h
   cases h;exact⟨y,rfl,he⟩
  ·rw[if_neg he]at h
   cases hf:yap name r with
   |none=>rw[hf]at h;cases h
   |some j=>
    rw[hf]at h;cases h;obtain⟨x,h1,h2⟩:=findLt_some hf;exact⟨x,h1,h2⟩
theorem yjY {α:Type}{l:List α}{i:Nat}{x:α}(h:l[i]? =some x):(l.eraseIdx i).length+1=l.length:=by
 have:=(zge h).1;rw[List.length_eraseIdx,if_pos this];omega
structure Eff (s s':MS)(n m q:Nat):Prop where
 at_:s'.at_=s.at_
 len:s'.stk.length=s.stk.length - n+m
 pot:pot s'+q≤pot s
theorem ybk (s:MS)(why:ByteArray):(s.fall why).over=true:=by simp[MS.fall,MS.want]
theorem yjk (s:MS)(v:Val):(s.put v).over=true∨s.put v=s.push v:=by
 unfold MS.put;split
 ·exact .inl (ybk _ _)
 ·exact .inr rfl
theorem ykl (s:MS)(op:Int)(a b:Val):(s.arith op a b).over=true∨∃x,s.arith op a b=s.push x:=by
 unfold MS.arith;split
 ·exact .inl (ybk _ _)
 ·exact .inr ⟨_,rfl⟩
theorem ylS (s:MS)(op:Int)(a b:Val):(s.two op a b).over=true∨∃x,s.two op a b=s.push x:=by
 have hp:∀v,(s.put v).over=true∨∃x,s.put v=s.push x:=fun v=>(yjk s v).imp id (fun h=>⟨v,h⟩);unfold MS.two
 repeat' split
 all_goals first|exact .inr ⟨_,rfl⟩|exact .inl (ybk _ _)|exact hp _|exact ykl s op a b
def tkR (op:Int)(k:Nat):Nat:=if op=29 then k else if op=10∨op=31 then 1 else 2
theorem yaP (s:MS)(op:Int)(k:Nat):(s.reckon op k).over=true∨Eff s (s.reckon op k) (tkR op k) 1 0:=by
 have hpush:∀(l:List Val) (x:Val),l.length=s.stk.length - tkR op k→Eff s (({s with stk:=l}:MS).push x) (tkR op k) 1 0:=fun l x hl=>⟨rfl,by show(l++[x]).length=_;rw[znk,hl];rfl,znc _⟩;unfold MS.reckon;by_cases h1:op=29
 ·rw[if_pos h1]
  rcases yjk ({s with stk:=s.stk.take (s.stk.length - k)}:MS) (.mk 3 0 ⟨#[]⟩ (s.stk.drop (s.stk.length - k)))with h|h
  ·exact .inl h
  ·rw[h]
   exact .inr (hpush _ _ (by rw[List.length_take,tkR,if_pos h1];omega))
 ·rw[if_neg h1]
  by_cases h2:op=10
  ·rw[if_pos h2]
   exact .inr (hpush _ _ (by rw[zmi,tkR,if_neg h1,if_pos (.inl h2)]))
  ·rw[if_neg h2]
   by_cases h3:op=31
   ·rw[if_pos h3]
    have hl:s.stk.dropLast.length=s.stk.length - tkR op k:=by rw[zmi,tkR,if_neg h1,if_pos (.inr h3)]
    split
    ·exact .inr (hpush _ _ hl)
    ·split
     ·exact .inr (hpush _ _ hl)
     ·exact .inl (ybk _ _)
   ·rw[if_neg h3]
    rcases ylS s.pop.pop op s.pop.top s.top with h|⟨x,h⟩
    ·exact .inl h
    ·rw[h]
     refine .inr (hpush _ _ ?_);show s.stk.dropLast.dropLast.length=_;rw[zmi,zmi,tkR,if_neg h1,if_neg (by omega)];omega
theorem yef (s:MS)(op:Int)(name:ByteArray)(hl:(if op=20 then 2 else 1)≤s.stk.length):(s.begin_ op name).over=true∨Eff s (s.begin_ op name) (if op=20 then 2 else 1) 1 0:=by
 unfold MS.begin_;by_cases h19:op=19
 ·rw[if_pos h19]
  dsimp only;cases hf:(if s.top.kind=1 then yat s.top.num s.timers.list else none)with
  |none=>exact .inl (ybk _ _)
  |some i=>
   dsimp only;have hf2:yat s.top.num s.timers.list=some i:=by
    split at hf
    ·exact hf
    ·cases hf
   obtain⟨x,hx,_⟩:=findT_some hf2;have ho:=ycu _ _ _ hx;rw[hx];dsimp only[Option.getD];refine .inr ?_;cases hov:x.over with
   |true=>
    rw[hov]at ho;refine⟨rfl,?_,?_⟩
    ·show(s.stk.dropLast++[_]).length=_
     rw[znk,zmi,if_neg (by omega)];rfl
    ·show s.letters.length+(yan (s.timers.list.eraseIdx i)+yan s.acts.list)+0≤s.letters.length+(yan s.timers.list+yan s.acts.list)
     omega
   |false=>
    rw[hov]at ho;refine⟨rfl,?_,?_⟩
    ·show(s.stk.dropLast++[_]).length=_
     rw[znk,zmi,if_neg (by omega)];rfl
    ·show s.letters.length+(yan (s.timers.list.eraseIdx i)+yan s.acts.list)+0≤s.letters.length+(yan s.timers.list+yan s.acts.list)
     omega
 ·rw[if_neg h19]
  dsimp only;split
  ·exact .inl (ybk _ _)
  ·split
   ·exact .inl (ybk _ _)
   ·refine .inr ?_
    by_cases h20:op=20
    ·rw[if_pos h20,if_pos h20]
     rw[if_pos h20]at hl;refine⟨rfl,?_,?_⟩
     ·show(s.stk.dropLast.dropLast++[_]).length=_
      rw[znk,zmi,zmi,zmh];omega
     ·show s.letters.length+(yan s.timers.list+yan (s.acts.list++[_]))+0≤s.letters.length+(yan s.timers.list+yan s.acts.list)
      rw[ydO];simp[yan]
    ·rw[if_neg h20,if_neg h20]
     refine⟨rfl,?_,?_⟩
     ·show(s.stk.dropLast++[_]).length=_
      rw[znk,zmi,zmh]
     ·show s.letters.length+(yan (s.timers.list++[_])+yan s.acts.list)+0≤s.letters.length+(yan s.timers.list+yan s.acts.list)
      rw[ydO];simp[yan]
theorem ydQ {s:MS}{i:Nat}{name:ByteArray}(h:yap name s.letters=some i):pot (s.openL i)+1=pot s:=by
 obtain⟨x,hx,_⟩:=findLt_some h;have:=yjY hx;show(s.letters.eraseIdx i).length+(yan s.timers.list+yan s.acts.list)+1=s.letters.length+(yan s.timers.list+yan s.acts.list);omega
theorem ykw (s s':MS)(op:Int)(name:ByteArray)(hop:op=18∨op=21∨op=22∨op=28)(h:s.wait op name=some s'):s'.over=true∨(s'.at_=s.at_+1∧s'.stk.length=s.stk.length - (ofL op).1.i.toNat+(ofL op).1.o.toNat∧pot s'+1=pot s):=by
 unfold MS.wait at h;by_cases h22:op=22
 ·subst h22
  rw[if_pos rfl]at h;cases hf:yap name s.letters with
  |none=>rw[hf]at h;cases h
  |some i=>
   rw[hf]at h;cases h;refine .inr ⟨rfl,?_,ydQ hf⟩;show(s.stk++[_]).length=_;rw[znk];rfl
 ·rw[if_neg h22]at h
  dsimp only at h;cases hf:(if s.top.kind=1 then yat s.top.num (if op=21 then s.acts.list else s.timers.list)else none)with
  |none=>
   rw[hf]at h;cases h;exact .inl (ybk _ _)
  |some i=>
   rw[hf]at h;dsimp only at h;have hf2:yat s.top.num (if op=21 then s.acts.list else s.timers.list)=some i:=by
    split at hf
    ·exact hf
    ·cases hf
   obtain⟨x,hx,_⟩:=findT_some hf2;cases hk:(if op=28 then yap name s.letters else none)with
   |some k=>
    rw[hk]at h;cases h;by_cases h28:op=28
    ·subst h28
     rw[if_pos rfl]at hk;refine .inr ⟨rfl,?_,ydQ (s:=s.pop) hk⟩;show((s.stk.dropLast++[_])++[_]).length=_;rw[znk,znk,zmi];rfl
    ·rw[if_neg h28]at hk
     cases hk
   |none=>
    rw[hk,hx]at h;dsimp only[Option.getD]at h;have ho:=ycu _ _ _ hx;cases hov:x.over with
    |false=>rw[hov]at h;cases h
    |true=>
     rw[hov]at h ho;simp only[Bool.not_true,znl,Option.some.injEq]at h;by_cases h21:op=21
     ·subst h21
      rw[if_neg (by decide),if_pos rfl]at h;rw[if_pos rfl]at h ho;subst h;refine .inr ⟨rfl,?_,?_⟩
      ·show((s.stk.dropLast++[_])++[_]).length=_
       rw[znk,znk,zmi];rfl
      ·show s.letters.length+(yan s.timers.list+yan ((if(21:Int)=21 then s.acts.list else s.timers.list).eraseIdx i))+1=s.letters.length+(yan s.timers.list+yan s.acts.list)
       simp only[znm]at ho;rw[if_pos rfl];omega
     ·rw[if_neg h21,if_neg h21,if_neg h21]at h
      rw[if_neg h21]at ho;simp only[znm]at ho;by_cases h18:op=18
      ·subst h18
       rw[if_pos rfl]at h;subst h;refine .inr ⟨rfl,?_,?_⟩
       ·show(s.stk.dropLast++[_]).length=_
        rw[znk,zmi];rfl
       ·show s.letters.length+(yan (s.timers.list.eraseIdx i)+yan s.acts.list)+1=s.letters.length+(yan s.timers.list+yan s.acts.list)
        omega
      ·rw[if_neg h18]at h
       have h28:op=28:=by omega
       subst h28;subst h;refine .inr ⟨rfl,?_,?_⟩
       ·show((s.stk.dropLast++[_])++[_]).length=_
        rw[znk,znk,zmi];rfl
       ·show s.letters.length+(yan (s.timers.list.eraseIdx i)+yan s.acts.list)+1=s.letters.length+(yan s.timers.list+yan s.acts.list)
        omega
theorem yl8 {s s':MS}{n m q:Nat}(h:Eff s.nxt s' n m q):s'.at_=s.at_+1∧s'.stk.length=s.stk.length - n+m∧pot s'+q≤pot s:=⟨h.at_,h.len,h.pot⟩
theorem yaX (s:MS)(x:Val):(s.push x).stk.length=s.stk.length+1:=by
 show(s.stk++[x]).length=_;rw[znk];rfl
theorem pop_len (s:MS):s.pop.stk.length=s.stk.length - 1:=zmi
theorem ynk (s:MS)(p:Img)(op:Int)(k:Nat)(h0:0≤op)(h1:op<33)(hb:(ofL op).1.blocks=false)(he:(ofL op).1.ends=false)(hf:(ofL op).1.flow=false)(hl:(if op=29 then k else(ofL op).1.i.toNat)≤s.stk.length):
  (s.go p op k).over=true∨Eff s (s.go p op k) (if op=29 then k else(ofL op).1.i.toNat) (ofL op).1.o.toNat 0:=by
 have hc:op=0∨op=1∨op=2∨op=3∨op=4∨op=13∨op=14∨op=15∨op=16∨op=17∨op=19∨op=20∨op=23∨op=24∨op=5∨op=6∨op=7∨op=8∨op=9∨op=10∨op=29∨op=30∨op=31∨op=32:=by
  have:op=11∨op=12∨op=18∨op=21∨op=22∨op=25∨op=26∨op=27∨op=28∨¬(op=11∨op=12∨op=18∨op=21∨op=22∨op=25∨op=26∨op=27∨op=28):=by omega
  rcases this with rfl|rfl|rfl|rfl|rfl|rfl|rfl|rfl|rfl|h
  ·cases hf
  ·cases hf
  ·cases hb
  ·cases hb
  ·cases hb
  ·cases he
  ·cases he
  ·cases he
  ·cases hb
  ·omega
 have hlast:∀l:List Val,l.dropLast.length=l.length - 1:=fun l=>zmi;rcases hc with rfl|rfl|rfl|rfl|rfl|rfl|rfl|rfl|rfl|rfl|rfl|rfl|rfl|rfl|rfl|rfl|rfl|rfl|rfl|rfl|rfl|rfl|rfl|rfl
 ·exact .inr ⟨rfl,rfl,znc _⟩
 ·exact .inr ⟨rfl,yaX s _,znc _⟩
 ·exact .inr ⟨rfl,pop_len s,znc _⟩
 ·refine .inr ⟨rfl,(yaX s _).trans ?_,znc _⟩
  have hl:1≤s.stk.length:=hl;show s.stk.length+1=s.stk.length - 1+2;omega
 ·refine .inr ⟨rfl,(yaX (s.pop.pop.push s.top) s.pop.top).trans ?_,znc _⟩
  rw[yaX,pop_len,pop_len];show s.stk.length - 1 - 1+1+1=s.stk.length - 2+2;omega
 ·exact .inr ⟨rfl,yaX s _,znc _⟩
 ·exact .inr ⟨rfl,pop_len s,znc _⟩
 ·exact .inr ⟨rfl,yaX s _,znc _⟩
 ·exact .inr ⟨rfl,yaX s _,znc _⟩
 ·exact yef s 17 _ hl
 ·exact yef s 19 (p.names[k]?.getD ⟨#[]⟩) hl
 ·exact yef s 20 _ hl
 ·have e:s.go p 23 k=match yap (p.names[k]?.getD ⟨#[]⟩) s.letters with
   |some i=>((s.openL i).push (s.letV i)).push (yaH true)
   |none=>(s.push yai).push (yaH false):=rfl
  rw[e];cases hq:yap (p.names[k]?.getD ⟨#[]⟩) s.letters with
  |some i=>exact .inr ⟨rfl,(yaX ((s.openL i).push (s.letV i)) _).trans (by rw[yaX];rfl),by have:=ydQ hq;show pot (s.openL i)+0≤pot s;omega⟩
  |none=>exact .inr ⟨rfl,(yaX (s.push yai) _).trans (by rw[yaX];rfl),znc _⟩
 ·exact .inr ⟨rfl,yaX s _,znc _⟩
 ·exact yaP s 5 k
 ·exact yaP s 6 k
 ·exact yaP s 7 k
 ·exact yaP s 8 k
 ·exact yaP s 9 k
 ·exact yaP s 10 k
 ·exact yaP s 29 k
 ·exact yaP s 30 k
 ·exact yaP s 31 k
 ·exact yaP s 32 k
theorem ykh {op:Int}(h0:0≤op)(h1:op<33)(h:(ofL op).1.blocks=true):op=18∨op=21∨op=22∨op=28:=by
 have hc:op=0∨op=1∨op=2∨op=3∨op=4∨op=5∨op=6∨op=7∨op=8∨op=9∨op=10∨op=11∨op=12∨op=13∨op=14∨op=15∨op=16∨op=17∨op=19∨op=20∨op=23∨op=24∨op=25∨op=26∨op=27∨op=29∨op=30∨op=31∨op=32∨(op=18∨op=21∨op=22∨op=28):=by omega
 rcases hc with rfl|rfl|rfl|rfl|rfl|rfl|rfl|rfl|rfl|rfl|rfl|rfl|rfl|rfl|rfl|rfl|rfl|rfl|rfl|rfl|rfl|rfl|rfl|rfl|rfl|rfl|rfl|rfl|rfl|h1
 all_goals first|exact h1|cases h
theorem yli (s:MS){op:Int}(name:ByteArray):(s.end_ op name).over=true:=by
 unfold MS.end_;split
 ·simp[MS.want]
 ·split<;>simp[MS.want]
theorem yhh {p:Img}{s s':MS}{c:In}(hc:p.code[s.at_]? =some c)(h0:0≤c.op)(h1:c.op<33)(ha:0≤c.a)(hh:yaz c≤s.stk.length)(h:yak p s=some s'):
  s'.over=true∨(s'.at_∈followN c s.at_∧(s'.stk.length:Int)=s.stk.length+((ofL c.op).1.o - yaz c)∧pot s'+(bif restsL c then 1 else 0)≤pot s):=by
 unfold yak at h;rw[hc]at h;dsimp only[Option.getD]at h;unfold followN restsL;cases hb:(ofL c.op).1.blocks with
 |true=>
  rw[hb]at h;simp only[znm]at h;have hop:=ykh h0 h1 hb;rcases ykw _ _ _ _ hop h with h|⟨h2,h3,h4⟩
  ·exact .inl h
  ·refine .inr ⟨?_,?_,?_⟩
   ·rw[h2]
    rcases hop with e|e|e|e<;>rw[e]<;>exact List.mem_singleton.2 rfl
   ·rw[h3]
    unfold yaz at hh⊢;rcases hop with e|e|e|e
    all_goals
     rw[e]at hh⊢
     first|(have hh:(1:Int)≤s.stk.length:=hh;show((s.stk.length - 1+1:Nat):Int)=s.stk.length+(1 - 1);omega)|(have hh:(1:Int)≤s.stk.length:=hh;show((s.stk.length - 1+2:Nat):Int)=s.stk.length+(2 - 1);omega)|(show((s.stk.length - 0+1:Nat):Int)=s.stk.length+(1 - 0);omega)
   ·simp only[Bool.true_or,znm]
    omega
 |false=>
  rw[hb]at h;simp only[znl]at h;cases he:(ofL c.op).1.ends with
  |true=>
   rw[he]at h;simp only[znm,Option.some.injEq]at h;rw[←h];exact .inl (yli _ _)
  |false=>
   rw[he]at h;simp only[znl,Bool.or_false]at h⊢;cases hf:(ofL c.op).1.flow with
   |true=>
    rw[hf]at h;simp only[znm,Option.some.injEq]at h;have hpop:pot s.pop=pot s:=rfl;cases h11:(c.op==11)with
    |true=>
     rw[h11]at h;simp only[znm]at h⊢;rw[←h];have e:c.op=11:=by simpa using h11
     refine .inr ⟨List.mem_singleton.2 rfl,?_,znc _⟩;unfold yaz;rw[e];show(s.stk.length:Int)=s.stk.length+(0 - 0);omega
    |false=>
     rw[h11]at h;simp only[znl]at h⊢;have e:c.op=12:=by
      have hq:∀op:Int,0≤op→op<33→(ofL op).1.flow=true→op≠11→op=12:=fun op h0 h1 h hn=>by
       have hc:op=0∨op=1∨op=2∨op=3∨op=4∨op=5∨op=6∨op=7∨op=8∨op=9∨op=10∨op=13∨op=14∨op=15∨op=16∨op=17∨op=18∨op=19∨op=20∨op=21∨op=22∨op=23∨op=24∨op=25∨op=26∨op=27∨op=28∨op=29∨op=30∨op=31∨op=32∨op=12:=by omega
       rcases hc with rfl|rfl|rfl|rfl|rfl|rfl|rfl|rfl|rfl|rfl|rfl|rfl|rfl|rfl|rfl|rfl|rfl|rfl|rfl|rfl|rfl|rfl|rfl|rfl|rfl|rfl|rfl|rfl|rfl|rfl|rfl|e
       all_goals first|exact e|cases h
      exact hq c.op h0 h1 hf (by simpa using h11)
     have hl:((s.stk.length - 1:Nat):Int)=s.stk.length+((ofL c.op).1.o - yaz c):=by
      unfold yaz at hh⊢;rw[e]at hh⊢;have hh:(1:Int)≤s.stk.length:=hh;show((s.stk.length - 1:Nat):Int)=s.stk.length+(0 - 1);omega
     cases ht:ycp s.top with
     |true=>
      rw[ht]at h;simp only[znm]at h;rw[←h];refine .inr ⟨zmf,?_,znc _⟩;show((s.stk.dropLast.length:Nat):Int)=_;rw[zmi];exact hl
     |false=>
      rw[ht]at h;simp only[znl]at h;rw[←h];refine .inr ⟨zme _ (List.mem_singleton.2 rfl),?_,znc _⟩;show((s.stk.dropLast.length:Nat):Int)=_;rw[zmi];exact hl
   |false=>
    rw[hf]at h;simp only[znl,Option.some.injEq]at h;have h11:(c.op==11)=false:=by
     rw[zna];intro e;rw[e]at hf;cases hf
    rw[h11];simp only[znl];have hin:=yce c.op;have htk:yaz c=((if c.op=29 then c.a.toNat else(ofL c.op).1.i.toNat:Nat):Int):=by
     unfold yaz;by_cases e:c.op=29
     ·rw[if_pos e,show(c.op==29)=true by simpa using e,znm]
      omega
     ·rw[if_neg e,show(c.op==29)=false by simpa using e,znl]
      omega
    have hl:(if c.op=29 then c.a.toNat else(ofL c.op).1.i.toNat)≤s.nxt.stk.length:=by
     show _≤s.stk.length;omega
    have hg:=ynk s.nxt p c.op c.a.toNat h0 h1 hb he hf hl;rw[h]at hg;rcases hg with hg|hg
    ·exact .inl hg
    ·obtain⟨g1,g2,g3⟩:=yl8 hg
     refine .inr ⟨List.mem_singleton.2 g1,?_,by omega⟩;have hl:(if c.op=29 then c.a.toNat else(ofL c.op).1.i.toNat)≤s.stk.length:=hl;rw[g2,htk];omega
structure Fr (s s':MS):Prop where
 steps:s'.steps=s.steps
 events:s'.events=s.events
 taken:s'.taken=s.taken
 input:s'.input=s.input
 now:s'.now=s.now
 asked:s'.asked=s.asked
 begun:s'.begun=s.begun
 places:s'.places.length=s.places.length
theorem Fr.trans {a b c:MS}(h:Fr a b)(k:Fr b c):Fr a c:=⟨k.steps.trans h.steps,k.events.trans h.events,k.taken.trans h.taken,k.input.trans h.input,k.now.trans h.now,k.asked.trans h.asked,k.begun.trans h.begun,k.places.trans h.places⟩
theorem ygJ (s:MS)(why:ByteArray):Fr s (s.fall why):=⟨rfl,rfl,rfl,rfl,rfl,rfl,rfl,rfl⟩
theorem ygI (s:MS)(v:Val):Fr s (s.push v):=⟨rfl,rfl,rfl,rfl,rfl,rfl,rfl,rfl⟩
theorem ylH (s:MS)(v:Val):Fr s (s.put v):=by
 unfold MS.put;split
 ·exact ygJ _ _
 ·exact ygI _ _
theorem ylc (s:MS)(op:Int)(a b:Val):Fr s (s.arith op a b):=by
 unfold MS.arith;split
 ·exact ygJ _ _
 ·exact ygI _ _
theorem ynm (s:MS)(op:Int)(a b:Val):Fr s (s.two op a b):=by
 unfold MS.two
 repeat' split
 all_goals first|exact ygI _ _|exact ygJ _ _|exact ylH _ _|exact ylc _ _ _ _
theorem yfL (s:MS)(op:Int)(k:Nat):Fr s (s.reckon op k):=by
 unfold MS.reckon
 repeat' split
 all_goals first|exact⟨rfl,rfl,rfl,rfl,rfl,rfl,rfl,rfl⟩|exact Fr.trans (b:=s.pop.pop) ⟨rfl,rfl,rfl,rfl,rfl,rfl,rfl,rfl⟩ (ynm _ _ _ _)|exact Fr.trans (b:={s with stk:=s.stk.take (s.stk.length - k)}) ⟨rfl,rfl,rfl,rfl,rfl,rfl,rfl,rfl⟩ (ylH _ _)
theorem yhE (s:MS)(op:Int)(name:ByteArray):Fr s (s.begin_ op name):=by
 unfold MS.begin_;dsimp only;split
 ·split
  ·exact⟨rfl,rfl,rfl,rfl,rfl,rfl,rfl,rfl⟩
  ·rename_i i _
   cases(s.timers.list[i]?.getD ⟨0,false,yai,0⟩).over<;>exact⟨rfl,rfl,rfl,rfl,rfl,rfl,rfl,rfl⟩
 ·repeat' split
  all_goals exact⟨rfl,rfl,rfl,rfl,rfl,rfl,rfl,rfl⟩
theorem ymu {s s':MS}{op:Int}{name:ByteArray}(h:s.wait op name=some s'):Fr s s':=by
 unfold MS.wait at h;split at h
 ·cases hf:yap name s.letters with
  |none=>rw[hf]at h;cases h
  |some i=>rw[hf]at h;cases h;exact⟨rfl,rfl,rfl,rfl,rfl,rfl,rfl,rfl⟩
 ·dsimp only at h
  split at h
  ·cases h;exact⟨rfl,rfl,rfl,rfl,rfl,rfl,rfl,rfl⟩
  ·split at h
   ·cases h;exact⟨rfl,rfl,rfl,rfl,rfl,rfl,rfl,rfl⟩
   ·rename_i i _ _ _
    cases hov:((if op=21 then s.acts.list else s.timers.list)[i]?.getD ⟨0,false,yai,0⟩).over with
    |false=>rw[hov]at h;cases h
    |true=>
     rw[hov]at h;simp only[Bool.not_true,znl,Option.some.injEq]at h;subst h
     repeat' split
     all_goals exact⟨rfl,rfl,rfl,rfl,rfl,rfl,rfl,rfl⟩
theorem yno (s:MS)(op:Int)(name:ByteArray):Fr s (s.end_ op name):=by
 unfold MS.end_
 repeat' split
 all_goals exact⟨rfl,rfl,rfl,rfl,rfl,rfl,rfl,rfl⟩
theorem ynn {s a b:MS}{c:Prop}[Decidable c](ha:Fr s a)(hb:Fr s b):Fr s (if c then a else b):=by
 split
 ·exact ha
 ·exact hb
theorem yol (s:MS)(p:Img)(op:Int)(k:Nat):Fr s (s.go p op k):=by
 unfold MS.go;dsimp only
 repeat' (first|exact yhE _ _ _|exact yfL _ _ _|refine ynn ?_ ?_)
 all_goals try(cases yap (p.names[k]?.getD ⟨#[]⟩) s.letters)
 all_goals first|exact⟨rfl,rfl,rfl,rfl,rfl,rfl,rfl,rfl⟩|exact⟨rfl,rfl,rfl,rfl,rfl,rfl,rfl,List.length_set⟩|exact yhE _ _ _|exact yfL _ _ _
theorem ybw {p:Img}{s s':MS}(h:yak p s=some s'):Fr s s':=by
 unfold yak at h;dsimp only at h;cases hb:(ofL (p.code[s.at_]?.getD ⟨0,0⟩).op).1.blocks with
 |true=>rw[hb]at h;exact ymu h
 |false=>
  rw[hb]at h;simp only[znl]at h;cases he:(ofL (p.code[s.at_]?.getD ⟨0,0⟩).op).1.ends with
  |true=>rw[he]at h;cases h;exact yno _ _ _
  |false=>
   rw[he]at h;simp only[znl]at h;cases hf:(ofL (p.code[s.at_]?.getD ⟨0,0⟩).op).1.flow with
   |true=>
    rw[hf]at h;cases h;cases((p.code[s.at_]?.getD ⟨0,0⟩).op==11)
    ·cases ycp s.top<;>exact⟨rfl,rfl,rfl,rfl,rfl,rfl,rfl,rfl⟩
    ·exact⟨rfl,rfl,rfl,rfl,rfl,rfl,rfl,rfl⟩
   |false=>
    rw[hf]at h;cases h;exact Fr.trans (b:=s.nxt) ⟨rfl,rfl,rfl,rfl,rfl,rfl,rfl,rfl⟩ (yol _ _ _ _)
end Go.Va
namespace Go.Va
open Go.Own Go.RowKit
open Go.Proofs.YtpagmlndgblhhaaGreatDoor
def At (fa:Fa)(s:MS):Prop:=fa.heights[s.at_]? =some (s.stk.length:Int)
def yfG (p:Img)(fa:Fa)(s:MS):Int:=(spF p.code (p.code.length+1) s.at_:Nat)+fa.span*(pot s:Nat)
theorem ygY {p:Img}{fa:Fa}(K:Known p fa){s:MS}(R:At fa s):∃c,p.code[s.at_]? =some c∧0≤c.op∧c.op<33∧0≤c.a∧yaz c≤s.stk.length∧(ofL c.op).2=true∧c.a<mostL p (ofL c.op).1.operand:=by
 have h0:(0:Int)≤s.stk.length:=Int.natCast_nonneg _;obtain⟨c,h1,h2,h3,h4,_,_,_,_,h6,_⟩:=K.step R h0 (run:=fa.span - (spF p.code (p.code.length+1) s.at_:Nat)) (by omega);have hm:=(ybL K.img).2.2.2.2.2.2.2.2 c (zmg h1);have hr:0≤c.op∧c.op<33:=by
  by_cases h:0≤c.op∧c.op<33
  ·exact h
  ·exfalso
   have e:∀j:Int,0≤j→j≤32→(c.op==j)=false:=fun j h1 h2=>by rw[zna];omega
   have:(ofL c.op).2=false:=by
    simp only[ofL,yck,e 0 (by decide) (by decide),e 1 (by decide) (by decide),e 2 (by decide) (by decide),e 3 (by decide) (by decide),e 4 (by decide) (by decide),e 5 (by decide) (by decide),e 6 (by decide) (by decide),e 7 (by decide) (by decide),e 8 (by decide) (by decide),e 9 (by decide) (by decide),e 10 (by decide) (by decide),e 11 (by decide) (by decide),e 12 (by decide) (by decide),e 13 (by decide) (by decide),e 14 (by decide) (by decide),e 15 (by decide) (by decide),e 16 (by decide) (by decide),e 17 (by decide) (by decide),e 18 (by decide) (by decide),e 19 (by decide) (by decide),e 20 (by decide) (by decide),e 21 (by decide) (by decide),e 22 (by decide) (by decide),e 23 (by decide) (by decide),e 24 (by decide) (by decide),e 25 (by decide) (by decide),e 26 (by decide) (by decide),e 27 (by decide) (by decide),e 28 (by decide) (by decide),e 29 (by decide) (by decide),e 30 (by decide) (by decide),e 31 (by decide) (by decide),e 32 (by decide) (by decide),znl]
   rw[h2]at this;cases this
 exact⟨c,h1,hr.1,hr.2,h3,h6,h2,hm.2.2⟩
theorem ydj {p:Img}{fa:Fa}(K:Known p fa){s:MS}(R:At fa s):1≤(spF p.code (p.code.length+1) s.at_:Nat)∧((spF p.code (p.code.length+1) s.at_:Nat):Int)≤fa.span:=
 ⟨yja (K.dn _ _ R (Int.natCast_nonneg _)),K.span _ _ R (Int.natCast_nonneg _)⟩
theorem ydB {p:Img}{fa:Fa}(K:Known p fa){s s':MS}(R:At fa s)(h:yak p s=some s'):s'.over=true∨(At fa s'∧yfG p fa s'+1≤yfG p fa s):=by
 obtain⟨c,hc,h0,h1,ha,hh,_,_⟩:=ygY K R;rcases yhh hc h0 h1 ha hh h with h2|⟨h2,h3,h4⟩
 ·exact .inl h2
 ·have hp:=ydj K R
  obtain⟨c',hc',_,_,_,_,_,_,_,_,_,hx⟩:=K.step R (Int.natCast_nonneg _) (run:=fa.span - (spF p.code (p.code.length+1) s.at_:Nat)) (by omega);rw[hc]at hc';cases hc';obtain⟨_,h',e1,e2,_,_,e3⟩:=hx _ h2;refine .inr ⟨by unfold At;rw[e2,e1,h3],?_⟩;unfold yfG;have hsp:0≤fa.span:=by omega
  cases hr:restsL c with
  |true=>
   rw[hr]at e3 h4;simp only[znm]at e3 h4;have hm:fa.span*((pot s':Nat):Int)+fa.span≤fa.span*((pot s:Nat):Int):=by
    rw[show fa.span*((pot s':Nat):Int)+fa.span=fa.span*(((pot s':Nat):Int)+1) by rw[Int.mul_add,Int.mul_one]];exact Int.mul_le_mul_of_nonneg_left (by omega) hsp
   omega
  |false=>
   rw[hr]at e3 h4;simp only[znl]at e3 h4;have hm:fa.span*((pot s':Nat):Int)≤fa.span*((pot s:Nat):Int):=Int.mul_le_mul_of_nonneg_left (by omega) hsp;omega
theorem ydm {p:Img}{fa:Fa}(K:Known p fa){s:MS}(R:At fa s):1≤yfG p fa s:=by
 have h:=ydj K R;have:0≤fa.span*((pot s:Nat):Int):=Int.mul_nonneg (by omega) (Int.natCast_nonneg _);unfold yfG;omega
theorem ylY {p:Img}{fa:Fa}(K:Known p fa):∀(f:Nat) (s:MS),(s.over=false→At fa s∧yfG p fa s≤f)→
  ((ya2 p f s).over=true∨(At fa (ya2 p f s)∧yak p (ya2 p f s)=none))∧((s.over=true∧ya2 p f s=s)∨(s.over=false∧((ya2 p f s).steps:Int)≤s.steps+yfG p fa s)):=by
 intro f
 induction f with
 |zero=>
  intro s h;have e:ya2 p 0 s=s:=rfl;rw[e];by_cases ho:s.over=true
  ·exact⟨.inl ho,.inl ⟨ho,rfl⟩⟩
  ·have ho:s.over=false:=by simpa using ho
   obtain⟨h1,h2⟩:=h ho;have:=ydm K h1;omega
 |succ f ih=>
  intro s h;by_cases ho:s.over=true
  ·have e:ya2 p (f+1) s=s:=by rw[ya2,ho];rfl
   rw[e];exact⟨.inl ho,.inl ⟨ho,rfl⟩⟩
  ·have ho:s.over=false:=by simpa using ho
   obtain⟨h1,h2⟩:=h ho;have hp:=ydm K h1;cases hs:yak p s with
   |none=>
    have e:ya2 p (f+1) s=s:=by rw[ya2,ho,hs];rfl
    rw[e];exact⟨.inr ⟨h1,hs⟩,.inr ⟨ho,by omega⟩⟩
   |some s'=>
    have e:ya2 p (f+1) s=ya2 p f {s' with steps:=s'.steps+1}:=by rw[ya2,ho,hs];rfl
    rw[e];have hst:s'.steps=s.steps:=(ybw hs).steps;rcases ydB K h1 hs with h3|⟨h3,h4⟩
    ·obtain⟨i1,i2⟩:=ih {s' with steps:=s'.steps+1} (fun e=>by rw[show({s' with steps:=s'.steps+1}:MS).over=s'.over from rfl,h3]at e;cases e)
     rcases i2 with⟨_,i2⟩|⟨i2,_⟩
     ·refine⟨i1,.inr ⟨ho,?_⟩⟩
      rw[i2];show((s'.steps+1:Nat):Int)≤_;omega
     ·rw[show({s' with steps:=s'.steps+1}:MS).over=s'.over from rfl,h3]at i2
      cases i2
    ·have hm:yfG p fa {s' with steps:=s'.steps+1}=yfG p fa s':=rfl
     obtain⟨i1,i2⟩:=ih {s' with steps:=s'.steps+1} (fun _=>⟨h3,by rw[hm];omega⟩);refine⟨i1,.inr ⟨ho,?_⟩⟩;rcases i2 with⟨_,i2⟩|⟨_,i2⟩
     ·rw[i2]
      show((s'.steps+1:Nat):Int)≤_;have:=ydm K h3;omega
     ·rw[hm]at i2
      have i2:_≤((s'.steps+1:Nat):Int)+_:=i2;omega
def fuel (p:Img)(s:MS):Nat:=(p.code.length+1)*(pot s+1)
theorem ylV {p:Img}{fa:Fa}{a:Int}(h:ya1 p=(fa,a,0)):fa.span≤p.code.length+1:=by
 unfold ya1 at h;have hno:ym9.span≤(p.code.length:Int)+1:=by show(0:Int)≤_;omega
 cases h1:(imgL p !=0)with
 |true=>
  rw[h1]at h;simp only[znm,Prod.mk.injEq]at h;rw[←h.1];exact hno
 |false=>
  rw[h1]at h;simp only[znl]at h;cases h2:((walkL p.code).1.2 !=0)with
  |true=>
   rw[h2]at h;simp only[znm,Prod.mk.injEq]at h;rw[←h.1];exact hno
  |false=>
   rw[h2]at h;simp only[znl]at h;cases h3:ycm p.code 0 (walkL p.code).2.heights with
   |some k=>
    rw[h3]at h;simp only[Prod.mk.injEq]at h;rw[←h.1];exact hno
   |none=>
    rw[h3]at h;simp only[Prod.mk.injEq]at h;rw[←h.1];have:=yhi (code:=p.code) (B:=p.code.length+1) (walkL p.code).2.heights 0 0 (znq _) (fun j h _ _=>yfm _ _ _);show((ycq p.code 0 (walkL p.code).2.heights 0:Nat):Int)≤_;omega
theorem yfF {p:Img}{fa:Fa}{s:MS}(hs:fa.span≤p.code.length+1):yfG p fa s≤fuel p s:=by
 unfold yfG fuel;have h1:=yfm p.code (p.code.length+1) s.at_;have h2:fa.span*((pot s:Nat):Int)≤(p.code.length+1)*((pot s:Nat):Int):=Int.mul_le_mul_of_nonneg_right hs (Int.natCast_nonneg _);have h3:(((p.code.length+1)*(pot s+1):Nat):Int)=(p.code.length+1)*((pot s:Nat):Int)+(p.code.length+1):=by
  rw[Nat.mul_add_one,Int.natCast_add,Int.natCast_mul];rfl
 omega
end Go.Va
namespace Go.Va
open Go.Own Go.RowKit
def ygO (k:Int):Option (Bool×Bool×Bool×Bool×Bool):=
 if k=1 then some (true,true,true,true,true)else if k=2 then some (false,true,false,false,false)else if k=3 then some (true,true,false,false,false)else if k=4 then some (true,true,false,false,false)else
 if k=5 then some (false,true,false,false,false)else if k=6 then some (false,true,true,false,false)else if k=7 then some (true,true,true,false,true)else if k=8 then some (true,false,false,false,true)else
 if k=9 then some (true,false,true,false,false)else if k=10 then some (true,false,false,false,false)else if k=11 then some (true,true,false,false,false)else if k=12 then some (true,false,false,false,false)else
 if k=13 then some (true,false,false,false,false)else if k=14 then some (false,false,true,false,true)else if k=15 then some (false,false,false,false,false)else if k=16 then some (false,false,false,false,true)else
 if k=17 then some (false,false,true,false,false)else if k=18 then some (false,false,false,false,false)else if k=19 then some (false,false,true,false,false)else if k=20 then some (false,false,false,false,false)else
 if k=21 then some (false,true,false,false,true)else none
def yaS (k:Int):Bool:=decide (k=1∨k=8∨k=9∨k=10∨k=12∨k=14∨k=15∨k=19∨k=20)
def ymP (k id t a b:Int)(n m:Nat)(vk cl:Int):Int:=
 match ygO k with
 |none=>9
 |some (hA,hB,hN,hT,hV)=>
  if id<1∨1048576<id∨t<0∨4611686018427387903<t then 1 else
  if a<0∨b<0∨(hA=false∧a≠0)∨(hB=false∧b≠0)then 1 else
  if 64<n∨128<m then 2 else
  if(hN=false∧n≠0)∨(hT=false∧m≠0)then 8 else
  if hV=false∧vk≠0 then 8 else cl
end Go.Va
namespace Go.Va
open Go.Own Go.RowKit
open Go.Proofs.YtpagmlndgblhhaaGreatDoor
def yaj (e:Ev):Int:=
 match ygO e.kind with
 |none=>9
 |some (hA,hB,hN,hT,hV)=>
  if e.id<1∨1048576<e.id∨e.time<0∨4611686018427387903<e.time then 1 else
  if e.a<0∨e.b<0∨(hA=false∧e.a≠0)∨(hB=false∧e.b≠0)then 1 else
  if 64<e.name.size∨128<e.text.size then 2 else
  if(hN=false∧e.name.size≠0)∨(hT=false∧e.text.size≠0)then 8 else
  if hV=false∧e.v.kind≠0 then 8 else checkL e.v
def hear (s:MS)(e:Ev):MS:=
 if e.kind=1 then{s with begun:=true,input:=yab e.v}else
 if e.kind=12 then{s with timers:=⟨ycw e.a 1 yai s.timers.list,s.timers.next⟩}else
 if e.kind=8 then{s with acts:=⟨ycw e.a 1 e.v s.acts.list,s.acts.next⟩}else
 if e.kind=9 then{s with acts:=⟨ycw e.a 0 (ybH e.name) s.acts.list,s.acts.next⟩}else
 if e.kind=10 then{s with acts:=⟨ycw e.a (-1) yai s.acts.list,s.acts.next⟩}else
 if e.kind=14 then{s with letters:=s.letters++[⟨e.name,yab e.v⟩]}else
 if e.kind=15 then{s with asked:=true}else{s with over:=true}
def ykJ (p:Img)(s:MS):MS:=ya2 p (fuel p s) s
def yay (p:Img)(s:MS)(e:Ev):Int×MS:=
 if yaj e≠0∨yaS e.kind=false then(9,s)else if s.over=true then(181,s)else if s.begun=(e.kind==1)then(7,s)else
 (0,ykJ p (hear {s with now:=e.time,steps:=0,events:=s.events+1} e))
def ms0 (p:Img):MS:=⟨[],List.replicate p.places.toNat yai,0,yai,0,⟨[],0⟩,⟨[],0⟩,[],false,false,false,⟨#[]⟩,[],0,0,0⟩
theorem ydN (id how:Int)(v:Val):∀l:List Th,yan (ycw id how v l)≤yan l+1
 |[]=>by simp[ycw,yan]
 |x::r=>by
  rw[ycw];split
  ·cases hx:x.over with
   |true=>simp only[znm];omega
   |false=>simp only[znl,yan,znm,hx];omega
  ·rw[yan,yan]
   have:=ydN id how v r;omega
structure Good (p:Img)(fa:Fa)(s:MS):Prop where
 at_:s.over=false→At fa s
 wait:s.over=false→s.begun=true→yak p s=none
 pot:s.over=false→Go.Va.pot s≤s.events
 steps:(s.steps:Int)≤fa.span*((s.events:Int)+1)
theorem yoh {p:Img}{fa:Fa}(K:Known p fa):Good p fa (ms0 p):=by
 have h0:At fa (ms0 p):=K.zero;have hs:=(ydj K h0);refine⟨fun _=>h0,(fun _ h=>by cases h),fun _=>znc _,?_⟩;show(0:Int)≤fa.span*((0:Int)+1);omega
theorem yjK {fa:Fa}{s:MS}(e:Ev)(h:At fa s):At fa (hear s e):=by
 unfold hear
 repeat' split
 all_goals exact h
theorem ydo (s:MS)(e:Ev):pot (hear s e)≤pot s+1∧(hear s e).events=s.events∧(hear s e).steps=s.steps:=by
 unfold hear;have h1:=fun how v=>ydN e.a how v s.timers.list;have h2:=fun how v=>ydN e.a how v s.acts.list;split
 ·exact⟨Nat.le_succ _,rfl,rfl⟩
 ·split
  ·refine⟨?_,rfl,rfl⟩
   have:=h1 1 yai;show s.letters.length+(yan (ycw e.a 1 yai s.timers.list)+yan s.acts.list)≤s.letters.length+(yan s.timers.list+yan s.acts.list)+1;omega
  ·split
   ·refine⟨?_,rfl,rfl⟩
    have:=h2 1 e.v;show s.letters.length+(yan s.timers.list+yan (ycw e.a 1 e.v s.acts.list))≤s.letters.length+(yan s.timers.list+yan s.acts.list)+1;omega
   ·split
    ·refine⟨?_,rfl,rfl⟩
     have:=h2 0 (ybH e.name);show s.letters.length+(yan s.timers.list+yan (ycw e.a 0 (ybH e.name) s.acts.list))≤s.letters.length+(yan s.timers.list+yan s.acts.list)+1;omega
    ·split
     ·refine⟨?_,rfl,rfl⟩
      have:=h2 (-1) yai;show s.letters.length+(yan s.timers.list+yan (ycw e.a (-1) yai s.acts.list))≤s.letters.length+(yan s.timers.list+yan s.acts.list)+1;omega
     ·split
      ·refine⟨?_,rfl,rfl⟩
       show(s.letters++[_]).length+(yan s.timers.list+yan s.acts.list)≤s.letters.length+(yan s.timers.list+yan s.acts.list)+1;rw[znk,zmh];omega
      ·split
       ·exact⟨Nat.le_succ _,rfl,rfl⟩
       ·exact⟨Nat.le_succ _,rfl,rfl⟩
theorem yeZ (p:Img):∀(f:Nat) (s:MS),(ya2 p f s).events=s.events∧(ya2 p f s).begun=s.begun∧(ya2 p f s).now=s.now
 |0,_=>⟨rfl,rfl,rfl⟩
 |f+1,s=>by
  rw[ya2];cases s.over with
  |true=>exact⟨rfl,rfl,rfl⟩
  |false=>
   simp only[znl];cases hs:yak p s with
   |none=>exact⟨rfl,rfl,rfl⟩
   |some s'=>
    have h:=ybw hs;obtain⟨h1,h2,h3⟩:=yeZ p f {s' with steps:=s'.steps+1};exact⟨h1.trans h.events,h2.trans h.begun,h3.trans h.now⟩
theorem yjd {p:Img}{fa:Fa}(K:Known p fa):∀(f:Nat) (s:MS),(s.over=false→At fa s)→(ya2 p f s).over=false→pot (ya2 p f s)≤pot s
 |0,_,_,_=>znc _
 |f+1,s,hA,h=>by
  by_cases ho:s.over=true
  ·have e:ya2 p (f+1) s=s:=by rw[ya2,ho];rfl
   rw[e];exact znc _
  ·have ho:s.over=false:=by simpa using ho
   cases hs:yak p s with
   |none=>
    have e:ya2 p (f+1) s=s:=by rw[ya2,ho,hs];rfl
    rw[e];exact znc _
   |some s'=>
    have e:ya2 p (f+1) s=ya2 p f {s' with steps:=s'.steps+1}:=by rw[ya2,ho,hs];rfl
    rw[e]at h⊢;obtain⟨c,hc,h0,h1,ha,hh,_,_⟩:=ygY K (hA ho);rcases yhh hc h0 h1 ha hh hs with h2|⟨h2,h3,h4⟩
    ·have ho2:({s' with steps:=s'.steps+1}:MS).over=true:=h2
     cases f with
     |zero=>rw[show ya2 p 0 {s' with steps:=s'.steps+1}={s' with steps:=s'.steps+1}from rfl,ho2]at h;cases h
     |succ f=>
      have e2:ya2 p (f+1) {s' with steps:=s'.steps+1}={s' with steps:=s'.steps+1}:=by rw[ya2,ho2];rfl
      rw[e2,ho2]at h;cases h
    ·have hA':At fa s':=by
      rcases ydB K (hA ho) hs with h5|⟨h5,_⟩
      ·have ho2:({s' with steps:=s'.steps+1}:MS).over=true:=h5
       cases f with
       |zero=>rw[show ya2 p 0 {s' with steps:=s'.steps+1}={s' with steps:=s'.steps+1}from rfl,ho2]at h;cases h
       |succ f=>
        have e2:ya2 p (f+1) {s' with steps:=s'.steps+1}={s' with steps:=s'.steps+1}:=by rw[ya2,ho2];rfl
        rw[e2,ho2]at h;cases h
      ·exact h5
     have:=yjd K f {s' with steps:=s'.steps+1} (fun _=>hA') h;have e3:pot ({s' with steps:=s'.steps+1}:MS)=pot s':=rfl;omega
theorem yiP {p:Img}{fa:Fa}(K:Known p fa)(hsp:fa.span≤p.code.length+1){s:MS}(G:Good p fa s)(e:Ev):Good p fa (yay p s e).2:=by
 unfold yay;split
 ·exact G
 ·split
  ·exact G
  ·rename_i ho
   have ho:s.over=false:=by simpa using ho
   split
   ·exact G
   ·obtain⟨s0,hs0⟩:∃s0:MS,s0={s with now:=e.time,steps:=0,events:=s.events+1}:=⟨_,rfl⟩
    have hA0:At fa s0:=by rw[hs0];exact G.at_ ho
    have hp0:pot s0≤s.events:=by rw[hs0];exact G.pot ho
    have he0:s0.events=s.events+1:=by rw[hs0]
    have hs1:s0.steps=0:=by rw[hs0]
    rw[←hs0];show Good p fa (ykJ p (hear s0 e));have hA1:=yjK e hA0;obtain⟨q1,q2,q3⟩:=ydo s0 e;obtain⟨s1,he⟩:∃s1,hear s0 e=s1:=⟨_,rfl⟩;rw[he]at hA1 q1 q2 q3⊢;unfold ykJ;have hR:=ylY K (fuel p s1) s1 (fun _=>⟨hA1,yfF hsp⟩);have hk:=yeZ p (fuel p s1) s1;have hP:=yjd K (fuel p s1) s1 (fun _=>hA1);have hsp1:=ydj K hA1;have hev:(ya2 p (fuel p s1) s1).events=s.events+1:=by rw[hk.1,q2,he0]
    refine⟨fun h=> ?_,fun h _=> ?_,fun h=> ?_,?_⟩
    ·rcases hR.1 with h1|h1
     ·rw[h1]at h;cases h
     ·exact h1.1
    ·rcases hR.1 with h1|h1
     ·rw[h1]at h;cases h
     ·exact h1.2
    ·have:=hP h
     omega
    ·rw[hev]
     have hspan:(0:Int)≤fa.span:=by omega
     rcases hR.2 with⟨_,h1⟩|⟨_,h1⟩
     ·rw[h1,q3,hs1]
      show(0:Int)≤fa.span*(((s.events+1:Nat):Int)+1);exact Int.mul_nonneg hspan (by omega)
     ·rw[q3,hs1]at h1
      have hm:yfG p fa s1≤fa.span*(((s.events+1:Nat):Int)+1):=by
       unfold yfG;have h2:fa.span*((pot s1:Nat):Int)≤fa.span*((s.events+1:Nat):Int):=Int.mul_le_mul_of_nonneg_left (by omega) hspan;rw[Int.mul_add,Int.mul_one];omega
      omega
end Go.Va
namespace Go.Va
open Go.Own Go.RowKit Go.Own.MapTy
theorem yfW {a b:ByteArray}:a.data.toList=b.data.toList↔a=b:=⟨fun h=>ByteArray.ext (Array.toList_inj.1 h),fun h=>by rw[h]⟩
theorem Val.ext4 {x y:Val}:x=y↔x.kind=y.kind∧x.num=y.num∧x.txt=y.txt∧x.list=y.list:=by
 cases x;cases y;simp[Val.kind,Val.num,Val.txt,Val.list]
theorem ybz (x:Val):(yab x).kind=x.kind:=by rw[ybQ];rfl
theorem ycO (x:Val):(yab x).num=bif x.kind==1 then x.num else 0:=by rw[ybQ];rfl
theorem yca (x:Val):(yab x).txt=bif x.kind==2 then x.txt else⟨#[]⟩:=by rw[ybQ];rfl
theorem clone_list (x:Val):(yab x).list=bif x.kind==3 then x.list.map yab else[]:=by rw[ybQ,ych];rfl
mutual
theorem yeb:∀x:Val,yab (yab x)=yab x
 | .mk k n s l=>by
   have h:=ydc l;rw[Val.ext4,ybz,ycO,yca,clone_list,ybz,ycO,yca,clone_list];show k=k∧(bif k==1 then(bif k==1 then n else 0)else 0)=(bif k==1 then n else 0)∧(bif k==2 then(bif k==2 then s else _)else _)=(bif k==2 then s else _)∧(bif k==3 then(bif k==3 then l.map yab else[]).map yab else[])=bif k==3 then l.map yab else[];refine⟨rfl,by cases(k==1)<;>rfl,by cases(k==2)<;>rfl,?_⟩;cases(k==3)
   ·rfl
   ·exact h
theorem ydc:∀l:List Val,(l.map yab).map yab=l.map yab
 |[]=>rfl
 |x::r=>by
  have h1:=yeb x;have h2:=ydc r;rw[List.map_cons,List.map_cons,h1,h2]
end
mutual
theorem yed:∀x:Val,yaf (yab x)=yaf x
 | .mk k n s l=>by
   have h:=ydd l;rw[yaR,yaR (.mk k n s l),ybz,ycO,yca,clone_list];show _::(bif k==1 then ybX (zigL (bif k==1 then n else 0))else bif k==2 then Go.Va.textB (bif k==2 then s else _).data.toList else bif k==3 then ybX (bif k==3 then l.map yab else[]).length++yaf.bytesL (bif k==3 then l.map yab else[])else[])=_::(bif k==1 then ybX (zigL n)else bif k==2 then Go.Va.textB s.data.toList else bif k==3 then ybX l.length++yaf.bytesL l else[])
   congr 1
   cases h1:(k==1)
   ·cases h2:(k==2)
    ·cases h3:(k==3)
     ·rfl
     ·simp only[znm,znl,zmd];rw[h]
    ·rfl
   ·rfl
theorem ydd:∀l:List Val,yaf.bytesL (l.map yab)=yaf.bytesL l
 |[]=>rfl
 |x::r=>by
  have h1:=yed x;have h2:=ydd r;rw[List.map_cons,ybc,ybc,h1,h2]
end
end Go.Va
namespace Go.Proofs.YtpagmlndgblhhaaGreatDoor
open Go.RowKit Go.Own Go.Own.MapTy Go.Va Go.Sort
def ype (p:Img)(L:List (Int×ByteArray))(o:Int)(a:Nat):ByteArray:=
 bif o==1 then ylB (p.consts[a]?.getD ylx)else bif o==2 then ylA (p.names[a]?.getD ⟨#[]⟩)else bif o==4 then(MapTy.get L (a:Int)).getD ⟨#[]⟩else ymj (a:Int)
def ypf (p:Img)(L:List (Int×ByteArray))(o:Int)(a:Nat):List UInt8:=
 bif o==1||(o==2||(o==4||(o==3||o==5)))then(⟨#[32]⟩++ype p L o a:ByteArray).data.toList else[]
def yog (L:List (Int×ByteArray))(i:Nat):List UInt8:=match MapTy.get L (i:Int)with
 |some s=>(s++⟨#[58,10]⟩).data.toList
 |none=>[]
def yn7 (p:Img)(L:List (Int×ByteArray))(i:Nat)(c:In):List UInt8:=
 yog L i++((⟨#[32,32]⟩++(ofL c.op).1.name:ByteArray).data.toList++(ypf p L (ofL c.op).1.operand c.a.toNat++[10]))
def yoo (p:Img)(L:List (Int×ByteArray)):Nat→List In→List UInt8
 |_,[]=>[]
 |i,c::r=>yn7 p L i c++yoo p L (i+1) r
mutual
theorem ydA:∀x:Val,szV x+1≤34*(yaf x).length
 | .mk k n s l=>by
   rw[szV,yaf];cases h2:(k==2)with
   |true=>
    obtain rfl:k=2:=by simpa using h2
    have h1:1≤(ybX s.data.toList.length).length:=by
     unfold ybX;rw[yht];cases decide (128≤s.data.toList.length)<;>simp
    show 4*s.size+30+1≤34*((Go.Va.textB s.data.toList).length+1);unfold Go.Va.textB;have e:s.data.toList.length=s.size:=by simp
    rw[znk];omega
   |false=>
    cases h3:(k==3)with
    |true=>
     obtain rfl:k=3:=by simpa using h3
     have h:=yfk l;show szV.szL l+30+1≤34*((ybX l.length++yaf.bytesL l).length+1);rw[znk];omega
    |false=>simp;omega
theorem yfk:∀l:List Val,szV.szL l≤34*(yaf.bytesL l).length
 |[]=>by rw[szV.szL,yaf.bytesL];simp
 |x::r=>by
  rw[szV.szL,yaf.bytesL,znk];have h1:=ydA x;have h2:=yfk r;omega
end
theorem yfU {x:Val}(h:checkL x=0):(yaf x).length≤512:=by
 unfold checkL at h;cases h1:((yal x 0 (0,0)).2 !=0)with
 |true=>rw[h1]at h;simp at h h1;exact absurd h h1
 |false=>
  rw[h1]at h;cases h2:decide (512<(yaf x).length)with
  |true=>rw[h2]at h;simp at h
  |false=>rw[znz]at h2;omega
theorem yd7:∀{l:List Val},yaI l=0→∀x∈l,checkL x=0
 |[],_,x,h=>by cases h
 |y::r,hc,x,h=>by
  rw[yaI]at hc;cases h1:(checkL y !=0)with
  |true=>rw[h1]at hc;simp at hc h1;exact absurd hc h1
  |false=>
   rw[h1]at hc;rcases List.mem_cons.1 h with rfl|h
   ·simpa using h1
   ·exact yd7 hc x h
theorem yhx:∀{l:List ByteArray},ya8 l=0→∀x∈l,x.size≤64
 |[],_,x,h=>by cases h
 |y::r,hc,x,h=>by
  rw[ya8]at hc;cases h1:decide (64<y.size)with
  |true=>rw[h1]at hc;simp at hc
  |false=>
   rw[h1]at hc;rcases List.mem_cons.1 h with rfl|h
   ·rw[znz]at h1;omega
   ·exact yhx hc x h
theorem yln {p:Img}(h:imgL p=0)(x:Val)(hx:x∈p.consts):szV x≤20000:=by
 have h1:=yfU (yd7 (ybL h).2.2.2.2.2.2.1 x hx);have h2:=ydA x;omega
end Go.Proofs.YtpagmlndgblhhaaGreatDoor
namespace Go.Proofs.YtpagmlndgblhhaaGreatDoor
open Go.RowKit Go.Own Go.Own.MapTy Go.Va Go.Sort
open Go.Own.Cells (sz enc)
structure PrSt (F:Nat→Prop)(N:Nat)(w W:World)(bx mb:Nat)(i:IC)(p:Img):Prop where
 below:Below w.heap.size w W
 img:IAt F W i p
 gl:Gl Tryz.prog N W
 lab:MapAt LM W mb (yn9 p.code)
 box:∀o,W.cell? ⟨bx,o,none⟩=(#[.slice i.ca i.cn i.cc,.slice i.ka i.kn i.kc,.slice i.na i.nn i.nc,.int .i64 i.pl]:Array Value)[o]?
 bxlt:bx<W.heap.size
 mblt:mb<W.heap.size
 ok:imgL p=0
 wf:∀x∈p.consts,x.wf
def yn2 (p:Img)(c:In)(st:RSt):RSt:=
 bif (ofL c.op).1.operand==1 then
  let q:=yfh (yab (p.consts[c.a.toNat]?.getD ylx)) st.consts
  {st with consts:=q.2,code:=st.code++[⟨c.op,q.1⟩]}
 else bif (ofL c.op).1.operand==2 then
  let q:=yny (p.names[c.a.toNat]?.getD ⟨#[]⟩) st.names
  {st with names:=q.2,code:=st.code++[⟨c.op,q.1⟩]}
 else bif (ofL c.op).1.operand==3 then{st with places:=max st.places (c.a+1),code:=st.code++[c]}
 else{st with code:=st.code++[c]}
def yn3 (p:Img):List In→RSt→RSt
 |[],st=>st
 |c::r,st=>yn3 p r (yn2 p c st)
end Go.Proofs.YtpagmlndgblhhaaGreatDoor
namespace Go.Proofs.YtpagmlndgblhhaaGreatDoor
open Go.RowKit Go.Own Go.Own.MapTy Go.Va Go.Sort
inductive Arg where
 |val (x:Val)
 |name (s:ByteArray)
 |place (n:Int)
 |int (n:Int)
def ypq (m:Int×Arg)(st:RSt):RSt:=
 match m.2 with
 | .val x=>{st with consts:=(yfh x st.consts).2,code:=st.code++[⟨m.1,((yfh x st.consts).1:Nat)⟩]}
 | .name s=>{st with names:=(yny s st.names).2,code:=st.code++[⟨m.1,((yny s st.names).1:Nat)⟩]}
 | .place n=>{st with places:=max st.places (n+1),code:=st.code++[⟨m.1,n⟩]}
 | .int n=>{st with code:=st.code++[⟨m.1,n⟩]}
def ypa (m:Int×Arg):Prop:=
 match m.2 with
 | .val _=>(ofL m.1).1.operand=1
 | .name _=>(ofL m.1).1.operand=2
 | .place n=>(ofL m.1).1.operand=3∧0≤n
 | .int _=>(ofL m.1).1.operand≠1∧(ofL m.1).1.operand≠2∧(ofL m.1).1.operand≠3
def yi2:List In→Int→Int→Int→Option (Int×Int×Int)
 |[],c,n,p=>some (c,n,p)
 |x::r,c,n,p=>
  if(ofL x.op).1.operand=1 then(if c<x.a then none else yi2 r (if x.a=c then c+1 else c) n p)else
  if(ofL x.op).1.operand=2 then(if n<x.a then none else yi2 r c (if x.a=n then n+1 else n) p)else
  if(ofL x.op).1.operand=3 then yi2 r c n (if p<x.a+1 then x.a+1 else p)else yi2 r c n p
structure TdOk (p:Img):Prop where
 run:yi2 p.code 0 0 0=some ((p.consts.length:Int),(p.names.length:Int),p.places)
 consts:∀(i k:Nat) (x y:Val),k<i→p.consts[i]? =some x→p.consts[k]? =some y→yab x≠yab y
 names:∀(i k:Nat) (x y:ByteArray),k<i→p.names[i]? =some x→p.names[k]? =some y→x≠y
end Go.Proofs.YtpagmlndgblhhaaGreatDoor
