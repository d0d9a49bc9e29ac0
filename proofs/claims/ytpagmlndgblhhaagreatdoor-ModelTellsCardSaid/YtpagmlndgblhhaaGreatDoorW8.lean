/- Parts of the proof: what the functions and the plain laws give that later parts lean on. Conditions: none beyond those that each theorem names. -/
import Derived.Test.YtpagmlndgblhhaaGreatDoorW7
set_option maxRecDepth 100000
set_option maxHeartbeats 8000000
namespace Go.Va
open Go.Own Go.RowKit
open Go.Proofs.YtpagmlndgblhhaaGreatDoor
def yaf (e:Ev):Int:=
 match ygA e.kind with
 |none=>9
 |some (hA,hB,hN,hT,hV)=>
  if e.id<1\/1048576<e.id\/e.time<0\/4611686018427387903<e.time then 1 else
  if e.a<0\/e.b<0\/(hA=false/\e.a≠0)\/(hB=false/\e.b≠0)then 1 else
  if 64<e.name.size\/128<e.text.size then 2 else
  if(hN=false/\e.name.size≠0)\/(hT=false/\e.text.size≠0)then 8 else
  if hV=false/\e.v.kind≠0 then 8 else checkL e.v
def hear (s:MS)(e:Ev):MS:=
 if e.kind=1 then{s with begun:=true,input:=yaa e.v}else
 if e.kind=12 then{s with timers:=⟨ycw e.a 1 yag s.timers.list,s.timers.next⟩}else
 if e.kind=8 then{s with acts:=⟨ycw e.a 1 e.v s.acts.list,s.acts.next⟩}else
 if e.kind=9 then{s with acts:=⟨ycw e.a 0 (ybZ e.name) s.acts.list,s.acts.next⟩}else
 if e.kind=10 then{s with acts:=⟨ycw e.a (-1) yag s.acts.list,s.acts.next⟩}else
 if e.kind=14 then{s with letters:=s.letters++[⟨e.name,yaa e.v⟩]}else
 if e.kind=15 then{s with asked:=true}else{s with over:=true}
def ym0 (p:Img)(s:MS):MS:=ya1 p (fuel p s) s
def yah (p:Img)(s:MS)(e:Ev):Int×MS:=
 if yaf e≠0\/yaH e.kind=false then(9,s)else if s.over=true then(181,s)else if s.begun=(e.kind==1)then(7,s)else
 (0,ym0 p (hear {s with now:=e.time,steps:=0,events:=s.events+1} e))
def ms0 (p:Img):MS:=⟨[],List.replicate p.places.toNat yag,0,yag,0,⟨[],0⟩,⟨[],0⟩,[],false,false,false,⟨#[]⟩,[],0,0,0⟩
theorem yeb (id how:Int)(v:Val):∀l:List Th,yaq (ycw id how v l)<=yaq l+1
 |[]=>by simp[ycw,yaq]
 |x::r=>by
  rw[ycw];split
  .cases hx:x.over with
   |true=>simp only[znm];omega
   |false=>simp only[znl,yaq,znm,hx];omega
  .rw[yaq,yaq]
   have:=yeb id how v r;omega
structure Good (p:Img)(fa:Fa)(s:MS):Prop where
 at_:s.over=false->At fa s
 wait:s.over=false->s.begun=true->yal p s=none
 pot:s.over=false->Go.Va.pot s<=s.events
 steps:(s.steps:Int)<=fa.span*((s.events:Int)+1)
theorem ypL {p:Img}{fa:Fa}(K:Known p fa):Good p fa (ms0 p):=by
 have A:At fa (ms0 p):=K.zero;have B:=(ydG K A);refine⟨fun _=>A,(fun _ h=>by cases h),fun _=>znc _,?_⟩;show(0:Int)<=fa.span*((0:Int)+1);omega
theorem ykE {fa:Fa}{s:MS}(e:Ev)(h:At fa s):At fa (hear s e):=by
 unfold hear
 repeat' split
 all_goals exact h
theorem ydK (s:MS)(e:Ev):pot (hear s e)<=pot s+1/\(hear s e).events=s.events/\(hear s e).steps=s.steps:=by
 unfold hear;have B:=fun how v=>yeb e.a how v s.timers.list;have A:=fun how v=>yeb e.a how v s.acts.list;split
 .exact⟨Nat.le_succ _,rfl,rfl⟩
 .split
  .refine⟨?_,rfl,rfl⟩
   have:=B 1 yag;show s.letters.length+(yaq (ycw e.a 1 yag s.timers.list)+yaq s.acts.list)<=s.letters.length+(yaq s.timers.list+yaq s.acts.list)+1;omega
  .split
   .refine⟨?_,rfl,rfl⟩
    have:=A 1 e.v;show s.letters.length+(yaq s.timers.list+yaq (ycw e.a 1 e.v s.acts.list))<=s.letters.length+(yaq s.timers.list+yaq s.acts.list)+1;omega
   .split
    .refine⟨?_,rfl,rfl⟩
     have:=A 0 (ybZ e.name);show s.letters.length+(yaq s.timers.list+yaq (ycw e.a 0 (ybZ e.name) s.acts.list))<=s.letters.length+(yaq s.timers.list+yaq s.acts.list)+1;omega
    .split
     .refine⟨?_,rfl,rfl⟩
      have:=A (-1) yag;show s.letters.length+(yaq s.timers.list+yaq (ycw e.a (-1) yag s.acts.list))<=s.letters.length+(yaq s.timers.list+yaq s.acts.list)+1;omega
     .split
      .refine⟨?_,rfl,rfl⟩
       show(s.letters++[_]).length+(yaq s.timers.list+yaq s.acts.list)<=s.letters.length+(yaq s.timers.list+yaq s.acts.list)+1;rw[znk,zmh];omega
      .split
       .exact⟨Nat.le_succ _,rfl,rfl⟩
       .exact⟨Nat.le_succ _,rfl,rfl⟩
theorem yfA (p:Img):∀(f:Nat) (s:MS),(ya1 p f s).events=s.events/\(ya1 p f s).begun=s.begun/\(ya1 p f s).now=s.now
 |0,_=>⟨rfl,rfl,rfl⟩
 |f+1,s=>by
  rw[ya1];cases s.over with
  |true=>exact⟨rfl,rfl,rfl⟩
  |false=>
   simp only[znl];cases hs:yal p s with
   |none=>exact⟨rfl,rfl,rfl⟩
   |some s'=>
    have h:=ybM hs;obtain⟨C,B,A⟩:=yfA p f {s' with steps:=s'.steps+1};exact⟨C.trans h.events,B.trans h.begun,A.trans h.now⟩
theorem yj4 {p:Img}{fa:Fa}(K:Known p fa):∀(f:Nat) (s:MS),(s.over=false->At fa s)->(ya1 p f s).over=false->pot (ya1 p f s)<=pot s
 |0,_,_,_=>znc _
 |f+1,s,hA,h=>by
  by_cases ho:s.over=true
  .have e:ya1 p (f+1) s=s:=by rw[ya1,ho];rfl
   rw[e];exact znc _
  .have ho:s.over=false:=by simpa using ho
   cases hs:yal p s with
   |none=>
    have e:ya1 p (f+1) s=s:=by rw[ya1,ho,hs];rfl
    rw[e];exact znc _
   |some s'=>
    have e:ya1 p (f+1) s=ya1 p f {s' with steps:=s'.steps+1}:=by rw[ya1,ho,hs];rfl
    rw[e]at h|-;obtain⟨c,G,J,I,H,F,_,_⟩:=yhO K (hA ho);rcases yh7 G J I H F hs with E|⟨E,M,L⟩
    .have A:({s' with steps:=s'.steps+1}:MS).over=true:=E
     cases f with
     |zero=>rw[show ya1 p 0 {s' with steps:=s'.steps+1}={s' with steps:=s'.steps+1}from rfl,A]at h;cases h
     |succ f=>
      have D:ya1 p (f+1) {s' with steps:=s'.steps+1}={s' with steps:=s'.steps+1}:=by rw[ya1,A];rfl
      rw[D,A]at h;cases h
    .have B:At fa s':=by
      rcases ydW K (hA ho) hs with C|⟨C,_⟩
      .have A:({s' with steps:=s'.steps+1}:MS).over=true:=C
       cases f with
       |zero=>rw[show ya1 p 0 {s' with steps:=s'.steps+1}={s' with steps:=s'.steps+1}from rfl,A]at h;cases h
       |succ f=>
        have D:ya1 p (f+1) {s' with steps:=s'.steps+1}={s' with steps:=s'.steps+1}:=by rw[ya1,A];rfl
        rw[D,A]at h;cases h
      .exact C
     have:=yj4 K f {s' with steps:=s'.steps+1} (fun _=>B) h;have N:pot ({s' with steps:=s'.steps+1}:MS)=pot s':=rfl;omega
theorem yjD {p:Img}{fa:Fa}(K:Known p fa)(hsp:fa.span<=p.code.length+1){s:MS}(G:Good p fa s)(e:Ev):Good p fa (yah p s e).2:=by
 unfold yah;split
 .exact G
 .split
  .exact G
  .rename_i F
   have F:s.over=false:=by simpa using F
   split
   .exact G
   .obtain⟨s0,B⟩:∃s0:MS,s0={s with now:=e.time,steps:=0,events:=s.events+1}:=⟨_,rfl⟩
    have M:At fa s0:=by rw[B];exact G.at_ F
    have Q:pot s0<=s.events:=by rw[B];exact G.pot F
    have J:s0.events=s.events+1:=by rw[B]
    have E:s0.steps=0:=by rw[B]
    rw[<-B];show Good p fa (ym0 p (hear s0 e));have D:=ykE e M;obtain⟨P,N,H⟩:=ydK s0 e;obtain⟨s1,R⟩:∃s1,hear s0 e=s1:=⟨_,rfl⟩;rw[R]at D P N H|-;unfold ym0;have L:=ymY K (fuel p s1) s1 (fun _=>⟨D,ygl hsp⟩);have hk:=yfA p (fuel p s1) s1;have S:=yj4 K (fuel p s1) s1 (fun _=>D);have O:=ydG K D;have I:(ya1 p (fuel p s1) s1).events=s.events+1:=by rw[hk.1,N,J]
    refine⟨fun h=> ?_,fun h _=> ?_,fun h=> ?_,?_⟩
    .rcases L.1 with C|C
     .rw[C]at h;cases h
     .exact C.1
    .rcases L.1 with C|C
     .rw[C]at h;cases h
     .exact C.2
    .have:=S h
     omega
    .rw[I]
     have A:(0:Int)<=fa.span:=by omega
     rcases L.2 with⟨_,C⟩|⟨_,C⟩
     .rw[C,H,E]
      show(0:Int)<=fa.span*(((s.events+1:Nat):Int)+1);exact Int.mul_nonneg A (by omega)
     .rw[H,E]at C
      have hm:ygm p fa s1<=fa.span*(((s.events+1:Nat):Int)+1):=by
       unfold ygm;have T:fa.span*((pot s1:Nat):Int)<=fa.span*((s.events+1:Nat):Int):=Int.mul_le_mul_of_nonneg_left (by omega) A;rw[Int.mul_add,Int.mul_one];omega
      omega
end Go.Va
namespace Go.Va
open Go.Own Go.RowKit Go.Own.MapTy
theorem yb7:∀(a b:List UInt8),Lib.compareBytes a b=0↔a=b
 |[],[]=>by simp[Lib.compareBytes]
 |[],_::_=>by simp[Lib.compareBytes]
 |_::_,[]=>by simp[Lib.compareBytes]
 |a::xs,b::ys=>by
  rw[Lib.compareBytes];by_cases h1:a<b
  .rw[if_pos h1]
   refine⟨fun h=>by simp at h,fun h=> ?_⟩;obtain⟨rfl,_⟩:=List.cons.inj h;exact absurd h1 (UInt8.lt_irrefl _)
  .rw[if_neg h1]
   by_cases h2:b<a
   .rw[if_pos h2]
    refine⟨fun h=>by simp at h,fun h=> ?_⟩;obtain⟨rfl,_⟩:=List.cons.inj h;exact absurd h2 (UInt8.lt_irrefl _)
   .rw[if_neg h2,yb7 xs ys]
    have e:a=b:=UInt8.le_antisymm (UInt8.not_lt.1 h2) (UInt8.not_lt.1 h1);rw[e];simp
theorem ykZ (b:Bool):¬(bif b then(-1:Int)else 1)=0:=by cases b<;>decide
theorem yeB {a b:ByteArray}:a.data.toList=b.data.toList↔a=b:=⟨fun h=>ByteArray.ext (Array.toList_inj.1 h),fun h=>by rw[h]⟩
theorem Val.ext4 {x y:Val}:x=y↔x.kind=y.kind/\x.num=y.num/\x.txt=y.txt/\x.list=y.list:=by
 cases x;cases y;simp[Val.kind,Val.num,Val.txt,Val.list]
theorem yaJ (x:Val):(yaa x).kind=x.kind:=by rw[ybU];rfl
theorem yb8 (x:Val):(yaa x).num=bif x.kind==1 then x.num else 0:=by rw[ybU];rfl
theorem ybT (x:Val):(yaa x).txt=bif x.kind==2 then x.txt else⟨#[]⟩:=by rw[ybU];rfl
theorem clone_list (x:Val):(yaa x).list=bif x.kind==3 then x.list.map yaa else[]:=by rw[ybU,ycE];rfl
mutual
theorem ydc:∀x y:Val,cmpV x y=0↔yaa x=yaa y
 | .mk k n s l,y=>by
   rw[ydn,Val.ext4,yaJ,yaJ,yb8,yb8,ybT,ybT,clone_list,clone_list];show(bif k !=y.kind then _ else bif k==1 then(bif n !=y.num then _ else _)else bif k==2 then Lib.compareBytes s.data.toList _ else bif k==3 then cmpV.cmpLs l y.list else 0)=0↔k=y.kind/\(bif k==1 then n else 0)=_/\(bif k==2 then s else _)=_/\(bif k==3 then l.map yaa else _)=_;by_cases hk:k=y.kind
   .rw[<-hk]
    have e0:(k !=k)=false:=by simp
    rw[e0];by_cases h1:k=1
    .subst h1
     simp only[beq_self_eq_true,znm,znl,true_and,show((1:Int)==2)=false from rfl,show((1:Int)==3)=false from rfl,and_true];by_cases hn:n=y.num
     .rw[hn];simp
     .have:(n !=y.num)=true:=by simpa using hn
      rw[this];simp only[znm,hn,iff_false];exact ykZ _
    .have C:(k==1)=false:=by simpa using h1
     by_cases h2:k=2
     .subst h2
      simp only[beq_self_eq_true,znm,znl,true_and,show((2:Int)==1)=false from rfl,show((2:Int)==3)=false from rfl,and_true];rw[yb7,yeB]
     .have B:(k==2)=false:=by simpa using h2
      by_cases h3:k=3
      .subst h3
       simp only[beq_self_eq_true,znm,znl,true_and,show((3:Int)==1)=false from rfl,show((3:Int)==2)=false from rfl];exact ygD l y.list
      .have A:(k==3)=false:=by simpa using h3
       simp[C,B,A]
   .have e0:(k !=y.kind)=true:=by simpa using hk
    rw[e0];simp only[znm,hk,false_and,iff_false];exact ykZ _
theorem ygD:∀xs ys:List Val,cmpV.cmpLs xs ys=0↔xs.map yaa=ys.map yaa
 |[],[]=>by rw[yfR];simp
 |[],y::s=>by rw[yfR];simp
 |x::r,[]=>by rw[yiG];simp
 |x::r,y::s=>by
  have h1:=ydc x y;have A:=ygD r s;rw[ygE,List.map_cons,List.map_cons];by_cases h:cmpV x y=0
  .have e:(cmpV x y !=0)=false:=by simpa using h
   rw[e,znl,A,h1.1 h];simp
  .have e:(cmpV x y !=0)=true:=by simpa using h
   rw[e,znm];refine⟨fun hh=>absurd hh h,fun hh=>absurd (h1.2 ?_) h⟩;exact(List.cons.inj hh).1
end
mutual
theorem yaY:∀x:Val,yaa (yaa x)=yaa x
 | .mk k n s l=>by
   have h:=ydy l;rw[Val.ext4,yaJ,yb8,ybT,clone_list,yaJ,yb8,ybT,clone_list];show k=k/\(bif k==1 then(bif k==1 then n else 0)else 0)=(bif k==1 then n else 0)/\(bif k==2 then(bif k==2 then s else _)else _)=(bif k==2 then s else _)/\(bif k==3 then(bif k==3 then l.map yaa else[]).map yaa else[])=bif k==3 then l.map yaa else[];refine⟨rfl,by cases(k==1)<;>rfl,by cases(k==2)<;>rfl,?_⟩;cases(k==3)
   .rfl
   .exact h
theorem ydy:∀l:List Val,(l.map yaa).map yaa=l.map yaa
 |[]=>rfl
 |x::r=>by
  have h1:=yaY x;have A:=ydy r;rw[List.map_cons,List.map_cons,h1,A]
end
mutual
theorem yeC:∀x:Val,yai (yaa x)=yai x
 | .mk k n s l=>by
   have h:=ydz l;rw[yaZ,yaZ (.mk k n s l),yaJ,yb8,ybT,clone_list];show _::(bif k==1 then ycg (zigL (bif k==1 then n else 0))else bif k==2 then Go.Va.textB (bif k==2 then s else _).data.toList else bif k==3 then ycg (bif k==3 then l.map yaa else[]).length++yai.bytesL (bif k==3 then l.map yaa else[])else[])=_::(bif k==1 then ycg (zigL n)else bif k==2 then Go.Va.textB s.data.toList else bif k==3 then ycg l.length++yai.bytesL l else[])
   congr 1
   cases h1:(k==1)
   .cases h2:(k==2)
    .cases h3:(k==3)
     .rfl
     .simp only[znm,znl,zmd];rw[h]
    .rfl
   .rfl
theorem ydz:∀l:List Val,yai.bytesL (l.map yaa)=yai.bytesL l
 |[]=>rfl
 |x::r=>by
  have h1:=yeC x;have A:=ydz r;rw[List.map_cons,ybs,ybs,h1,A]
end
end Go.Va
namespace Go.Proofs.YtpagmlndgblhhaaGreatDoor
open Go.RowKit Go.Own Go.Own.MapTy Go.Va Go.Sort
def yqG (p:Img)(L:List (Int×ByteArray))(o:Int)(a:Nat):ByteArray:=
 bif o==1 then ymv (p.consts[a]?.getD ymq)else bif o==2 then ymu (p.names[a]?.getD ⟨#[]⟩)else bif o==4 then(MapTy.get L (a:Int)).getD ⟨#[]⟩else ynt (a:Int)
def yqH (p:Img)(L:List (Int×ByteArray))(o:Int)(a:Nat):List UInt8:=
 bif o==1||(o==2||(o==4||(o==3||o==5)))then(⟨#[32]⟩++yqG p L o a:ByteArray).data.toList else[]
def ypK (L:List (Int×ByteArray))(i:Nat):List UInt8:=match MapTy.get L (i:Int)with
 |some s=>(s++⟨#[58,10]⟩).data.toList
 |none=>[]
def ypz (p:Img)(L:List (Int×ByteArray))(i:Nat)(c:In):List UInt8:=
 ypK L i++((⟨#[32,32]⟩++(ofL c.op).1.name:ByteArray).data.toList++(yqH p L (ofL c.op).1.operand c.a.toNat++[10]))
def ypS (p:Img)(L:List (Int×ByteArray)):Nat->List In->List UInt8
 |_,[]=>[]
 |i,c::r=>ypz p L i c++ypS p L (i+1) r
mutual
theorem ydV:∀x:Val,szV x+1<=34*(yai x).length
 | .mk k n s l=>by
   rw[szV,yai];cases h2:(k==2)with
   |true=>
    obtain rfl:k=2:=by simpa using h2
    have A:1<=(ycg s.data.toList.length).length:=by
     unfold ycg;rw[yil];cases decide (128<=s.data.toList.length)<;>simp
    show 4*s.size+30+1<=34*((Go.Va.textB s.data.toList).length+1);unfold Go.Va.textB;have e:s.data.toList.length=s.size:=by simp
    rw[znk];omega
   |false=>
    cases h3:(k==3)with
    |true=>
     obtain rfl:k=3:=by simpa using h3
     have h:=yfZ l;show szV.szL l+30+1<=34*((ycg l.length++yai.bytesL l).length+1);rw[znk];omega
    |false=>simp;omega
theorem yfZ:∀l:List Val,szV.szL l<=34*(yai.bytesL l).length
 |[]=>by rw[szV.szL,yai.bytesL];simp
 |x::r=>by
  rw[szV.szL,yai.bytesL,znk];have h1:=ydV x;have A:=yfZ r;omega
end
theorem ygK {x:Val}(h:checkL x=0):(yai x).length<=512:=by
 unfold checkL at h;cases h1:((yan x 0 (0,0)).2 !=0)with
 |true=>rw[h1]at h;simp at h h1;exact absurd h h1
 |false=>
  rw[h1]at h;cases h2:decide (512<(yai x).length)with
  |true=>rw[h2]at h;simp at h
  |false=>rw[znz]at h2;omega
theorem ycx:∀{l:List Val},yaK l=0->∀x∈l,checkL x=0
 |[],_,x,h=>by cases h
 |y::r,hc,x,h=>by
  rw[yaK]at hc;cases h1:(checkL y !=0)with
  |true=>rw[h1]at hc;simp at hc h1;exact absurd hc h1
  |false=>
   rw[h1]at hc;rcases List.mem_cons.1 h with rfl|h
   .simpa using h1
   .exact ycx hc x h
theorem yip:∀{l:List ByteArray},ybn l=0->∀x∈l,x.size<=64
 |[],_,x,h=>by cases h
 |y::r,hc,x,h=>by
  rw[ybn]at hc;cases h1:decide (64<y.size)with
  |true=>rw[h1]at hc;simp at hc
  |false=>
   rw[h1]at hc;rcases List.mem_cons.1 h with rfl|h
   .rw[znz]at h1;omega
   .exact yip hc x h
theorem ymf {p:Img}(h:imgL p=0)(x:Val)(hx:x∈p.consts):szV x<=20000:=by
 have B:=ygK (ycx (ybE h).2.2.2.2.2.2.1 x hx);have A:=ydV x;omega
end Go.Proofs.YtpagmlndgblhhaaGreatDoor
namespace Go.Proofs.YtpagmlndgblhhaaGreatDoor
open Go.RowKit Go.Own Go.Own.MapTy Go.Va Go.Sort
open Go.Own.Cells (sz enc)
structure PrSt (F:Nat->Prop)(N:Nat)(w W:World)(bx mb:Nat)(i:IC)(p:Img):Prop where
 below:Below w w W
 img:IAt F W i p
 gl:Gl Tryz.prog N W
 lab:MapAt LM W mb (ypB p.code)
 box:∀o,W.cell? ⟨bx,o,none⟩=(#[.slice i.ca i.cn i.cc,.slice i.ka i.kn i.kc,.slice i.na i.nn i.nc,.int .i64 i.pl]:Array Value)[o]?
 bxlt:bx<W.heap.size
 mblt:mb<W.heap.size
 ok:imgL p=0
 wf:∀x∈p.consts,x.wf
def ypr (p:Img)(c:In)(st:RSt):RSt:=
 bif (ofL c.op).1.operand==1 then
  let q:=yfV (yaa (p.consts[c.a.toNat]?.getD ymq)) st.consts
  {st with consts:=q.2,code:=st.code++[⟨c.op,q.1⟩]}
 else bif (ofL c.op).1.operand==2 then
  let q:=yoV (p.names[c.a.toNat]?.getD ⟨#[]⟩) st.names
  {st with names:=q.2,code:=st.code++[⟨c.op,q.1⟩]}
 else bif (ofL c.op).1.operand==3 then{st with places:=max st.places (c.a+1),code:=st.code++[c]}
 else{st with code:=st.code++[c]}
def yps (p:Img):List In->RSt->RSt
 |[],st=>st
 |c::r,st=>yps p r (ypr p c st)
end Go.Proofs.YtpagmlndgblhhaaGreatDoor
namespace Go.Proofs.YtpagmlndgblhhaaGreatDoor
open Go.RowKit Go.Own Go.Own.MapTy Go.Va Go.Sort
inductive Arg where
 |val (x:Val)
 |name (s:ByteArray)
 |place (n:Int)
 |int (n:Int)
def yqU (m:Int×Arg)(st:RSt):RSt:=
 match m.2 with
 | .val x=>{st with consts:=(yfV x st.consts).2,code:=st.code++[⟨m.1,((yfV x st.consts).1:Nat)⟩]}
 | .name s=>{st with names:=(yoV s st.names).2,code:=st.code++[⟨m.1,((yoV s st.names).1:Nat)⟩]}
 | .place n=>{st with places:=max st.places (n+1),code:=st.code++[⟨m.1,n⟩]}
 | .int n=>{st with code:=st.code++[⟨m.1,n⟩]}
def yqC (m:Int×Arg):Prop:=
 match m.2 with
 | .val _=>(ofL m.1).1.operand=1
 | .name _=>(ofL m.1).1.operand=2
 | .place n=>(ofL m.1).1.operand=3/\0<=n
 | .int _=>(ofL m.1).1.operand≠1/\(ofL m.1).1.operand≠2/\(ofL m.1).1.operand≠3
def yjQ:List In->Int->Int->Int->Option (Int×Int×Int)
 |[],c,n,p=>some (c,n,p)
 |x::r,c,n,p=>
  if(ofL x.op).1.operand=1 then(if c<x.a then none else yjQ r (if x.a=c then c+1 else c) n p)else
  if(ofL x.op).1.operand=2 then(if n<x.a then none else yjQ r c (if x.a=n then n+1 else n) p)else
  if(ofL x.op).1.operand=3 then yjQ r c n (if p<x.a+1 then x.a+1 else p)else yjQ r c n p
structure TdOk (p:Img):Prop where
 run:yjQ p.code 0 0 0=some ((p.consts.length:Int),(p.names.length:Int),p.places)
 consts:∀(i k:Nat) (x y:Val),k<i->p.consts[i]? =some x->p.consts[k]? =some y->yaa x≠yaa y
 names:∀(i k:Nat) (x y:ByteArray),k<i->p.names[i]? =some x->p.names[k]? =some y->x≠y
end Go.Proofs.YtpagmlndgblhhaaGreatDoor
namespace Go.Proofs.YtpagmlndgblhhaaGreatDoor
open Go.RowKit Go.Own Go.Own.MapTy Go.Va Go.Sort
open Go.Own.Cells (sz enc)
def numS (n:Nat):ByteArray:=⟨(ycg n).toArray⟩
theorem yc3 (n:Nat):(numS n).size<=11:=by
 have:=ybJ n;show(ycg n).toArray.size<=11;simpa using this
def ymC:Option Value->Bool
 |some (.int .u8 _)=>true
 |_=>false
def yoP:Option Value->UInt8
 |some (.int .u8 n)=>UInt8.ofNat n.toNat
 |_=>0
@[go_sem] theorem yph (x:UInt8):(⟨#[x]⟩:ByteArray).size=1:=rfl
@[go_sem] theorem ynu (n:Int):ymC (some (.int .u8 n))=true:=rfl
@[go_sem] theorem yn5 (n:Int):yoP (some (.int .u8 n))=UInt8.ofNat n.toNat:=rfl
@[go_sem] theorem ypn (W:World) (b off:Nat) (h:ymC (W.cell? ⟨b,off,none⟩)=true):(convert 55 9 (.slice (some ⟨b,off,none⟩) 1 1)).run Tryz.prog W= .ok (.string ⟨#[yoP (W.cell? ⟨b,off,none⟩)]⟩) W:=by
 obtain⟨n,hn⟩:∃n,W.cell? ⟨b,off,none⟩=some (.int .u8 n):=by
  revert h;cases hc:W.cell? ⟨b,off,none⟩with
  |none=>intro h;cases h
  |some v=>
   intro h;cases v with
   |int k n=>cases k<;>first|exact⟨n,rfl⟩|cases h
   |_=>cases h
 rw[hn];have:=run_convert_bytes_arg (P:=Tryz.prog) W 55 5 Tryz.underlying55 Tryz.underlying5 b off 1 1 [n] rfl (fun i hi=>by
  obtain rfl:i=0:=by omega
  exact hn) 9 Tryz.underlying9
 exact this
theorem yjh {n:Nat}(h:n<128):numS n=⟨#[UInt8.ofNat n]⟩:=by unfold numS;rw[yfb h]
theorem ylS {n:Nat}(h:128<=n)(hn:n<18446744073709551616):(⟨#[UInt8.ofNat (n%128+128)]⟩++numS (n/128):ByteArray)=numS n:=by
 apply ByteArray.ext;unfold numS;rw[yim h hn,ByteArray.data_append];simp
theorem ykl (n:Nat)(hn:n<128)(w:World):Calls Tryz.prog 143 #[.int .u64 n] w fun e w'=>e= .returned (.string (numS n))/\Below w w w':=by
 have C:(n:Int)<128:=by omega
 have B:IntKind.u8.wrap (n:Int)=n:=by simp[IntKind.wrap,IntKind.bits,IntKind.signed];omega
 have A:=zhd (yjh hn);go_in;go_wp2_with fail;refine zng (v:=.string ⟨#[UInt8.ofNat n]⟩) (by simp only[results,Tryz.results143];go_simp) rfl ⟨by rw[A.o],zal⟩
theorem ynf (n:Nat)(h:128<=n)(hn:n<18446744073709551616)(w:World)(IH:∀W,Calls Tryz.prog 143 #[.int .u64 (n/128:Nat)] W fun e w'=>e= .returned (.string (numS (n/128)))/\Below W W w'):Calls Tryz.prog 143 #[.int .u64 n] w fun e w'=>e= .returned (.string (numS n))/\Below w w w':=by
 have I:decide ((n:Int)<128)=false:=znd (by omega);have C:=zhd (ylS h hn);have H:¬9223372036854775807<1+(numS (n/128)).size:=by have:=yc3 (n/128);omega
 have IH:=zhd (show∀W,Calls Tryz.prog 143 #[.int .u64 (IntKind.u64.wrap ((n:Int)/128))] W fun e w'=>e= .returned (.string (numS (n/128)))/\Below W W w' from by
  have F:IntKind.u64.wrap ((n:Int)/128)=((n/128:Nat):Int):=by simp[IntKind.wrap,IntKind.bits,IntKind.signed];omega
  rw[F];exact IH)
 have B:(n:Int).tmod 128=((n%128:Nat):Int):=rfl;obtain⟨m,hm⟩:∃m,m=n%128+128:=⟨_,rfl⟩;have E:m<256:=by omega
 rw[<-hm]at C;have K:IntKind.u64.wrap (((n:Int).tmod 128)+128)=(m:Int):=by rw[B];simp[IntKind.wrap,IntKind.bits,IntKind.signed];omega
 have J:IntKind.u8.wrap (m:Int)=m:=by simp[IntKind.wrap,IntKind.bits,IntKind.signed];omega
 clear hm hn h B;go_in;go_wp2_with fail;go_region_law ((go_simp;go_at_call 143;refine(IH.o _).mono ?_;rintro e G ⟨rfl,A⟩;have D:=ypU A;try simp only[go_sem]at D))
 all_goals
  clear D;go_wp2_with fail;refine zng (v:=.string (⟨#[UInt8.ofNat m]⟩++numS (n/128))) (by simp only[results,Tryz.results143];go_simp) rfl ⟨by rw[C.o],?_⟩
  first
  |exact((zal).drew).trans (A.mono (by simp))
  |exact((znv _ _).drew.trans (A.mono (by simp))).alloc A.size _
theorem ydH:∀(n:Nat),n<18446744073709551616->∀w:World,Calls Tryz.prog 143 #[.int .u64 n] w fun e w'=>e= .returned (.string (numS n))/\Below w w w':=fun n=>by
 induction n using Nat.strongRecOn with
 |_ n ih=>
  intro A w;by_cases h:n<128
  .exact ykl n h w
  .exact ynf n (by omega) A w (fun W=>ih (n/128) (by omega) (by omega) W)
end Go.Proofs.YtpagmlndgblhhaaGreatDoor
namespace Go.Va
open Go.Own Go.RowKit
structure ELs (F:Nat->Prop)(w:World)(la:Option Addr)(ln:Nat)(l:List Val)(g off:Nat):Prop where
 len:ln=l.length
 max:ln<=maxLen
 addr:la=some ⟨g,off,none⟩\/l=[]
 at_:∀(i:Nat) (z:Val),l[i]? =some z->F g/\g<w/\∃c,CF F w c z/\
  w.cell? ⟨g,off+i*4,none⟩=some (.int .i64 c.kind)/\w.cell? ⟨g,off+i*4+1,none⟩=some (.int .i64 c.n)/\w.cell? ⟨g,off+i*4+2,none⟩=some (.string c.s)/\w.cell? ⟨g,off+i*4+3,none⟩=some (.slice c.la c.ln c.lc)
theorem VF.els {F:Nat->Prop}{w:World}{la:Option Addr}{ln lc:Nat}{l:List Val}(h:VF F w (.slice la ln lc) l):∃g off,ELs F w la ln l g off:=by
 obtain⟨E,D,A⟩:=h.elems;rcases A with A|⟨g,off,B,C,G,A⟩
 .exact⟨0,0,E,D,.inr A,fun i y hy=>by rw[A]at hy;simp at hy⟩
 .exact⟨g,off,E,D,.inl B,fun i y hy=>⟨C,G,A i y hy⟩⟩
theorem ELs.get {F:Nat->Prop}{w:World}{la:Option Addr}{ln:Nat}{l:List Val}{g off:Nat}(h:ELs F w la ln l g off){wr:World}(B:Below w w wr){i:Nat}(hi:i<ln):
  ∃z c,l[i]? =some z/\la=some ⟨g,off,none⟩/\l.drop i=z::l.drop (i+1)/\g<wr/\CF F wr c z/\
   wr.cell? ⟨g,off+i*4,none⟩=some (.int .i64 c.kind)/\wr.cell? ⟨g,off+i*4+1,none⟩=some (.int .i64 c.n)/\wr.cell? ⟨g,off+i*4+2,none⟩=some (.string c.s)/\wr.cell? ⟨g,off+i*4+3,none⟩=some (.slice c.la c.ln c.lc):=by
 obtain⟨z,A⟩:=yae (l:=l) (k:=i) (by have:=h.len;omega);obtain⟨_,H,c,I,G,E,D,C⟩:=h.at_ i z A;rw[<-B.cell (p:=⟨g,_,none⟩) H]at G E D C;exact⟨z,c,A,h.addr.resolve_right (fun e=>by rw[e]at A;simp at A),by
  rw[znr (zge A).1,(zge A).2],znj H B.size,I.keep (S:=fun _=>False) (zkb B) (fun _ _ f=>f),G,E,D,C⟩
end Go.Va
namespace Go.Proofs.YtpagmlndgblhhaaGreatDoor
open Go.RowKit Go.Own Go.Own.MapTy Go.Va Go.Sort
open Go.Own.Cells (sz enc)
def yeJ (w:World)(r:Nat×Int)(e:Ending)(w':World):Prop:=e= .returned (.tuple #[.int .i64 r.2,.int .i64 r.1])/\Below w w w'
theorem yi0 (x:Val)
  (d p:Nat)(hd:d<=8)(hp:p<=256)(ck cn:Int)(cs:ByteArray)(la:Option Addr)(ln lc:Nat)(F:Nat->Prop)(w:World)(C:CF F w ⟨ck,cn,cs,la,ln,lc⟩ x)
  (h:256<=p)(r:Nat×Int)(hr:r=(p+1,2)):
  Calls Tryz.prog 112 #[.agg #[ck,cn,cs,.slice la ln lc],d,p] w (yeJ w r)
  :=by
 have A:=zai hd C;clear A;subst hr;obtain rfl:p=256:=by omega
 clear C;go_in;go_wp2_with fail;refine zng (v:=.tuple #[.int .i64 2,.int .i64 257]) (by simp only[results,Tryz.results112];go_simp) rfl ⟨rfl,zal⟩
theorem yj3 (x:Val)
  (d p:Nat)(hd:d<=8)(hp:p<=256)(ck cn:Int)(cs:ByteArray)(la:Option Addr)(ln lc:Nat)(F:Nat->Prop)(w:World)(C:CF F w ⟨ck,cn,cs,la,ln,lc⟩ x)
  (h:¬256<=p)(hk:ck=0\/ck=1)(r:Nat×Int)(hr:r=(p+1,0)):
  Calls Tryz.prog 112 #[.agg #[ck,cn,cs,.slice la ln lc],d,p] w (yeJ w r)
  :=by
 have A:=zai hd C;clear A;subst hr;clear C;have B:¬(256:Int)<(p:Int)+1:=by omega
 rcases hk with rfl|rfl
 .go_in
  go_wp2_with fail;refine zng (v:=.tuple #[.int .i64 0,.int .i64 ((p:Int)+1)]) (by simp only[results,Tryz.results112];go_simp) rfl ⟨rfl,zal⟩
 .go_in
  go_wp2_with fail;refine zng (v:=.tuple #[.int .i64 0,.int .i64 ((p:Int)+1)]) (by simp only[results,Tryz.results112];go_simp) rfl ⟨rfl,zal⟩
theorem yiZ (x:Val)
  (d p:Nat)(hd:d<=8)(hp:p<=256)(ck cn:Int)(cs:ByteArray)(la:Option Addr)(ln lc:Nat)(F:Nat->Prop)(w:World)(C:CF F w ⟨ck,cn,cs,la,ln,lc⟩ x)
  (h:¬256<=p)(hk:ck=2)(r:Nat×Int)(hr:r=(p+1,bif decide (256<cs.size)then 2 else 0)):
  Calls Tryz.prog 112 #[.agg #[ck,cn,cs,.slice la ln lc],d,p] w (yeJ w r)
  :=by
 have A:=zai hd C;clear A;subst hr;subst hk;clear C;have D:¬(256:Int)<(p:Int)+1:=by omega
 cases hc:decide (256<cs.size)with
 |true=>
  have B:(256:Int)<(cs.size:Int):=by have:=znx hc;omega
  clear hc;go_in;go_wp2_with fail;refine zng (v:=.tuple #[.int .i64 2,.int .i64 ((p:Int)+1)]) (by simp only[results,Tryz.results112];go_simp) rfl ⟨rfl,zal⟩
 |false=>
  have B:¬(256:Int)<(cs.size:Int):=by have:=zny hc;omega
  clear hc;go_in;go_wp2_with fail;refine zng (v:=.tuple #[.int .i64 0,.int .i64 ((p:Int)+1)]) (by simp only[results,Tryz.results112];go_simp) rfl ⟨rfl,zal⟩
theorem yi2 (x:Val)
  (d p:Nat)(hd:d<=8)(hp:p<=256)(ck cn:Int)(cs:ByteArray)(la:Option Addr)(ln lc:Nat)(F:Nat->Prop)(w:World)(C:CF F w ⟨ck,cn,cs,la,ln,lc⟩ x)
  (h:¬256<=p)(k0:(ck==0)=false)(k1:(ck==1)=false)(k2:(ck==2)=false)(k3:(ck==3)=false)(r:Nat×Int)(hr:r=(p+1,9)):
  Calls Tryz.prog 112 #[.agg #[ck,cn,cs,.slice la ln lc],d,p] w (yeJ w r)
  :=by
 have A:=zai hd C;clear A;subst hr;clear C;have B:¬(256:Int)<(p:Int)+1:=by omega
 go_in;go_wp2_with fail;refine zng (v:=.tuple #[.int .i64 9,.int .i64 ((p:Int)+1)]) (by simp only[results,Tryz.results112];go_simp) rfl ⟨rfl,zal⟩
theorem ye5 (x:Val)
  (d p:Nat)(hd:d<=8)(hp:p<=256)(ck cn:Int)(cs:ByteArray)(la:Option Addr)(ln lc:Nat)(F:Nat->Prop)(w:World)(C:CF F w ⟨ck,cn,cs,la,ln,lc⟩ x)
  (h:¬256<=p)(k3:ck=3)(h8:8<=d\/64<ln)(r:Nat×Int)(hr:r=(p+1,bif decide (8<=d)then 30 else 2)):
  Calls Tryz.prog 112 #[.agg #[ck,cn,cs,.slice la ln lc],d,p] w (yeJ w r)
  :=by
 have A:=zai hd C;clear A;subst hr;subst k3;clear C;have E:¬(256:Int)<(p:Int)+1:=by omega
 cases hc:decide (8<=d)with
 |true=>
  have B:(8:Int)<=d:=by have:=znx hc;omega
  clear hc;go_in;go_wp2_with fail;refine zng (v:=.tuple #[.int .i64 30,.int .i64 ((p:Int)+1)]) (by simp only[results,Tryz.results112];go_simp) rfl ⟨rfl,zal⟩
 |false=>
  have B:¬(8:Int)<=d:=by have:=zny hc;omega
  have D:(64:Int)<ln:=by have:=zny hc;omega
  clear hc;go_in;go_wp2_with fail;refine zng (v:=.tuple #[.int .i64 2,.int .i64 ((p:Int)+1)]) (by simp only[results,Tryz.results112];go_simp) rfl ⟨rfl,zal⟩
def yqs (n:Nat):Prop:=∀(x:Val),x.parts<=n->∀(d p:Nat),d<=8->p<=256->∀(ck cn:Int) (cs:ByteArray) (la:Option Addr) (ln lc:Nat) (F:Nat->Prop) (w:World),CF F w ⟨ck,cn,cs,la,ln,lc⟩ x->
 Calls Tryz.prog 112 #[.agg #[ck,cn,cs,.slice la ln lc],d,p] w (yeJ w (yan x d (p,0)))
theorem yi1 (n:Nat)(IH:yqs n)(x:Val)(hx:x.parts<=n+1)
  (d p:Nat)(hd:d<=8)(hp:p<=256)(ck cn:Int)(cs:ByteArray)(la:Option Addr)(ln lc:Nat)(F:Nat->Prop)(w:World)(C:CF F w ⟨ck,cn,cs,la,ln,lc⟩ x)
  (h:¬256<=p)(k3:ck=3)(h8:¬8<=d)(h64:¬64<ln)(g off:Nat)(E:ELs F w la ln x.list g off)(r:Nat×Int)(hr:yan.walkL x.list (d+1) (p+1,0)=r):
  Calls Tryz.prog 112 #[.agg #[ck,cn,cs,.slice la ln lc],d,p] w (yeJ w r)
  :=by
 have k:=zai hd C;clear k;subst k3;have u:=zhd E;have HI:=zhd IH;have t:=zhd hr;have Z:=zhd E.len;clear C E IH hr;have h2:¬(256:Int)<(p:Int)+1:=by omega
 have h3:¬(8:Int)<=d:=by omega
 have h4:¬(64:Int)<ln:=by omega
 have m:wrap64 ((d:Int)+1)=(d:Int)+1:=by unfold wrap64;omega
 go_in;go_wp2_with fail;obtain⟨Q,D⟩:∃Q,Q=w.alloc (.cells #[.int .i64 3,cn,cs,.slice la ln lc] 38):=⟨_,rfl⟩;have S:=zha D;have j:=zba D;rw[<-D];have R:=zh2 S j;clear D S j;go_loopg [8,2] (x.list.length) (fun gk v8 v2 wr=>∃i q:Nat,v8= .int .i64 i/\v2= .int .i64 q/\i<=x.list.length/\q<=256/\gk=x.list.length - i/\Hid (yan.walkL (x.list.drop i) (d+1) (q,0)=r/\Below Q Q wr))
 case atStart=>exact⟨0,p+1,rfl,by simp,znq _,by omega,rfl,zhd ⟨t.o,znv _ _⟩⟩
 case round=>
  obtain⟨i,q,rfl,rfl,hi,W,H,K⟩:=hrel;have P:=R.o.2.trans (K.o.2.mono R.o.2.size);have V:=(K.o.2.block _ (zlt R.o.1)).trans R.o.1;have S:=zca V 3 rfl;have s0:=zlt V;clear V;by_cases hin:i<ln
  .obtain⟨z,J,T,U,M,l,Y,q0,q1,q2,q3⟩:=u.o.get P hin
   have X:(i:Int)<ln:=by omega
   have A:=K.o.1;rw[M,yaO]at A;have f:=zhd (HI.o z (by have:=Val.parts_lt (v:=x) (zmg T);omega) (d+1) q (by omega) W J.kind J.n J.s J.la J.ln J.lc F wr Y);have I:=ycW z (d+1) (q,0) (fun _=>W);obtain⟨G,O,hv⟩:∃(a:Nat) (b:Int),yan z (d+1) (q,0)=(a,b):=⟨_,_,rfl⟩;rw[hv]at f I A;have A:yan.walkL (x.list.drop (i+1)) (d+1) (G,O)=r:=A;have B:=zh5 I A P H (zge T).1;subst U;clear T Y M I A P hv H;go_wp2_with fail;refine f.o.mono ?_;rintro e y ⟨rfl,N⟩;have c:=zhd N;clear N;cases he:(O==0)with
   |true=>
    obtain rfl:O=0:=by simpa using he
    clear he;go_wp2_with fail;go_roundg (x.list.length - (i+1))
    case measure=>have:=B.o.2.2.2.1;have:=B.o.2.2.2.2;omega
    case rel=>exact⟨i+1,G,by simp,rfl,B.o.2.2.2.2,B.o.1 (by trivial),rfl,zhd ⟨B.o.2.1,K.o.2.trans (c.o.mono K.o.2.size)⟩⟩
   |false=>
    go_wp2_with fail;refine zng (v:=.tuple #[O,G]) (by simp only[results,Tryz.results112];go_simp) rfl ⟨?_,B.o.2.2.1.trans (c.o.mono B.o.2.2.1.size)⟩;have A:=B.o.2.1;rw[ya3 _ _ _ (by show(O !=0)=true;simpa using he)]at A;rw[<-A]
  .obtain rfl:i=ln:=by have:=Z.o;omega
   have L:x.list.drop i=[]:=zns (by have:=Z.o;omega);have A:=K.o.1;rw[L,ya2]at A;have B:=zh2 A P;clear A P H L;have e3:¬(i:Int)<i:=by omega
   go_wp2_with fail;refine zng (v:=.tuple #[.int .i64 0,q]) (by simp only[results,Tryz.results112];go_simp) rfl ⟨?_,B.o.2⟩;rw[<-B.o.1]
theorem yf2:∀n,yqs n
 |0=>fun x h=>by have:=x.parts_pos;omega
 |n+1=>fun x hx d p hd hp ck cn cs la ln lc F w C=>by
  have G:ck=x.kind:=C.kind;have D:cs=x.txt:=C.s;obtain⟨g,B,E⟩:=C.l.els;have A:=ycc x d p 0;rw[<-G,<-D,<-E.len]at A;have A:yan x d (p,0)=bif decide (256<=p)then(p+1,2)else bif ck==0||ck==1 then(p+1,0)else bif ck==2 then(p+1,bif decide (256<cs.size)then 2 else 0)else bif ck==3 then yan.walkL x.list (d+1) (p+1,bif decide (8<=d)then 30 else bif decide (64<ln)then 2 else 0)else(p+1,9):=A;by_cases hp2:256<=p
  .rw[zno hp2]at A
   exact yi0 x d p hd hp ck cn cs la ln lc F w C hp2 _ A
  .rw[znd hp2,znl]at A
   by_cases k0:ck=0\/ck=1
   .rw[show(ck==0||ck==1)=true by simpa using k0]at A
    exact yj3 x d p hd hp ck cn cs la ln lc F w C hp2 k0 _ A
   .rw[show(ck==0||ck==1)=false by simpa using k0,znl]at A
    by_cases k2:ck=2
    .rw[show(ck==2)=true by simpa using k2]at A
     exact yiZ x d p hd hp ck cn cs la ln lc F w C hp2 k2 _ A
    .rw[show(ck==2)=false by simpa using k2,znl]at A
     by_cases k3:ck=3
     .rw[show(ck==3)=true by simpa using k3,znm]at A
      by_cases h8:8<=d
      .rw[zno h8,znm,ya3 _ _ _ rfl]at A
       exact ye5 x d p hd hp ck cn cs la ln lc F w C hp2 k3 (.inl h8) _ (by rw[zno h8];exact A)
      .rw[znd h8,znl]at A
       by_cases h64:64<ln
       .rw[zno h64,znm,ya3 _ _ _ rfl]at A
        exact ye5 x d p hd hp ck cn cs la ln lc F w C hp2 k3 (.inr h64) _ (by rw[znd h8];exact A)
       .rw[znd h64,znl]at A
        exact yi1 n (yf2 n) x hx d p hd hp ck cn cs la ln lc F w C hp2 k3 h8 h64 g B E _ A.symm
     .rw[show(ck==3)=false by simpa using k3,znl]at A
      exact yi2 x d p hd hp ck cn cs la ln lc F w C hp2 (by simpa using fun e=>k0 (.inl e)) (by simpa using fun e=>k0 (.inr e)) (by simpa using k2) (by simpa using k3) _ A
theorem ylK (n:Int)(h0: -9223372036854775808<=n)(h1:n<=9223372036854775807)(w:World):Calls Tryz.prog 141 #[n] w fun e w'=>e= .returned (.string (numS (zigL n)))/\Below w w w':=by
 have F:=yjI h0 h1;by_cases hn:0<=n
 .have I:IntKind.u64.wrap n=n:=by simp[IntKind.wrap,IntKind.bits,IntKind.signed];omega
  have B:n*2=((zigL n:Nat):Int):=by
   unfold zigL;rw[if_pos hn];omega
  have C:=zhd (fun W=>ydH (zigL n) F W);generalize zigL n=z at*;have D:=zhd B;clear B;go_in;go_wp2_with fail;rw[D.o];refine(C.o _).mono ?_;rintro e G ⟨rfl,A⟩;have E:=zhd A;clear A;go_wp2;go_ret;exact⟨rfl,E.o⟩
 .have J:wrap64 (n+1)=n+1:=by unfold wrap64;omega
  have H:wrap64 (-(n+1))= -(n+1):=by unfold wrap64;omega
  have I:IntKind.u64.wrap (-(n+1))= -(n+1):=by simp[IntKind.wrap,IntKind.bits,IntKind.signed];omega
  have hm:IntKind.u64.wrap (-(n+1)*2)= -(n+1)*2:=by simp[IntKind.wrap,IntKind.bits,IntKind.signed];omega
  have B: -(n+1)*2+1=((zigL n:Nat):Int):=by
   unfold zigL;rw[if_neg hn];omega
  have C:=zhd (fun W=>ydH (zigL n) F W);generalize zigL n=z at*;have D:=zhd B;clear B;go_in;go_wp2_with fail;rw[D.o];refine(C.o _).mono ?_;rintro e G ⟨rfl,A⟩;have E:=zhd A;clear A;go_wp2;go_ret;exact⟨rfl,E.o⟩
def textS (s:ByteArray):ByteArray:=⟨(Go.Va.textB s.data.toList).toArray⟩
theorem ylu (s:ByteArray):numS s.size++s=textS s:=by
 apply ByteArray.ext;unfold numS textS Go.Va.textB;rw[ByteArray.data_append];simp
theorem yj6 (s:ByteArray)(hs:s.size<=1099511627776)(w:World):Calls Tryz.prog 142 #[s] w fun e w'=>e= .returned (.string (textS s))/\Below w w w':=by
 have B:=zhd (fun W=>ydH s.size (by omega) W);have G:IntKind.u64.wrap (s.size:Int)=s.size:=by simp[IntKind.wrap,IntKind.bits,IntKind.signed];omega
 have C:=zhd (ylu s);have F:=yc3 s.size;go_in;go_wp2_with fail;refine(B.o _).mono ?_;rintro e E ⟨rfl,A⟩;have D:=zhd A;clear A;generalize numS s.size=ns at*;go_wp2;go_ret;exact⟨by rw[C.o];rfl,D.o⟩
def bytesS (x:Val):ByteArray:=⟨(yai x).toArray⟩
theorem yeD (x:Val):(bytesS x).size=(yai x).length:=by
 show(yai x).toArray.size=_;simp
theorem ykz (k:Int):IntKind.u8.wrap k=k%256:=by simp[IntKind.wrap,IntKind.bits,IntKind.signed]
def BIH (n:Nat):Prop:=∀(x:Val),x.parts<=n->∀(ck cn:Int) (cs:ByteArray) (la:Option Addr) (ln lc:Nat) (F:Nat->Prop) (w:World),CF F w ⟨ck,cn,cs,la,ln,lc⟩ x->x.wf->(yai x).length<=1099511627776->
 Calls Tryz.prog 113 #[.agg #[ck,cn,cs,.slice la ln lc]] w fun e w'=>e= .returned (.string (bytesS x))/\Below w w w'
theorem ygb (x:Val)
  (ck cn:Int)(cs:ByteArray)(la:Option Addr)(ln lc:Nat)(F:Nat->Prop)(w:World)(C:CF F w ⟨ck,cn,cs,la,ln,lc⟩ x)(hw:x.wf)(hl:(yai x).length<=1099511627776)
  (k1:(ck==1)=false)(k2:(ck==2)=false)(k3:(ck==3)=false):
  Calls Tryz.prog 113 #[.agg #[ck,cn,cs,.slice la ln lc]] w fun e w'=>e= .returned (.string (bytesS x))/\Below w w w'
  :=by
 have B:=zai hw hl;clear B;have A:ck=x.kind:=C.kind;have D:Hid (bytesS x=⟨#[UInt8.ofNat (ck%256).toNat]⟩):=zhd (by
  unfold bytesS;rw[yaZ,<-A,k1,k2,k3];rfl)
 have E:=ykz ck;generalize ck%256=kb1 at*;clear C hw hl A;go_in;go_wp2;go_ret;exact⟨by rw[D.o];rfl,(zal).alloc (by simp) _⟩
theorem yjb (x:Val)
  (ck cn:Int)(cs:ByteArray)(la:Option Addr)(ln lc:Nat)(F:Nat->Prop)(w:World)(C:CF F w ⟨ck,cn,cs,la,ln,lc⟩ x)(hw:x.wf)(hl:(yai x).length<=1099511627776)
  (k1:ck=1):
  Calls Tryz.prog 113 #[.agg #[ck,cn,cs,.slice la ln lc]] w fun e w'=>e= .returned (.string (bytesS x))/\Below w w w'
  :=by
 have G:=zai hw hl;clear G;have E:ck=x.kind:=C.kind;have D:cn=x.num:=C.n;have B:=((Val.wf_eq x).1 hw).2.1;rw[<-D]at B;subst k1;have I:Hid ((⟨#[UInt8.ofNat 1]⟩++numS (zigL cn):ByteArray)=bytesS x):=zhd (by
  apply ByteArray.ext;unfold bytesS numS;rw[yaZ,<-E,<-D,ByteArray.data_append];simp)
 have H:=zhd (fun W=>ylK cn B.1 B.2 W);have M:=yc3 (zigL cn);generalize numS (zigL cn)=ns at*;clear C hw hl E D B;go_in;go_wp2_with fail;refine(H.o _).mono ?_;rintro e L ⟨rfl,A⟩;have J:=zhd (((znv w.heap.size w).alloc (znc _) (.cells #[.int .i64 1,cn,cs,.slice la ln lc] 38)).trans (((znv _ _).alloc (znc _) (.cells #[.int .u8 1] 5)).trans (A.mono (by simp))|>.mono (by simp)));clear A;have K:(⟨#[UInt8.ofNat 1]⟩:ByteArray).size=1:=rfl;go_wp2;go_ret;exact⟨by rw[<-I.o];rfl,J.o⟩
theorem yhn (x:Val)
  (ck cn:Int)(cs:ByteArray)(la:Option Addr)(ln lc:Nat)(F:Nat->Prop)(w:World)(C:CF F w ⟨ck,cn,cs,la,ln,lc⟩ x)(hw:x.wf)(hl:(yai x).length<=1099511627776)
  (k2:ck=2):
  Calls Tryz.prog 113 #[.agg #[ck,cn,cs,.slice la ln lc]] w fun e w'=>e= .returned (.string (bytesS x))/\Below w w w'
  :=by
 have G:ck=x.kind:=C.kind;have E:cs=x.txt:=C.s;subst k2;have M:cs.size<=140737488355328:=by have:=((Val.wf_eq x).1 hw).2.2.1;rw[<-E]at this;exact this
 have A:(Go.Va.textB cs.data.toList).length<=1099511627776:=by
  rw[yaZ,<-G,<-E]at hl;simp only[List.length_cons]at hl;have e:(bif (2:Int)==1 then ycg (zigL x.num)else bif (2:Int)==2 then Go.Va.textB cs.data.toList else bif (2:Int)==3 then ycg x.list.length++yai.bytesL x.list else[])=Go.Va.textB cs.data.toList:=rfl;rw[e]at hl;omega
 have N:(textS cs).size<=1099511627776:=by unfold textS;show(Go.Va.textB cs.data.toList).toArray.size<=_;simpa using A
 have B:cs.size<=1099511627776:=by
  have:cs.data.toList.length=cs.size:=by simp
  unfold Go.Va.textB at A;rw[znk]at A;omega
 have I:Hid ((⟨#[UInt8.ofNat 2]⟩++textS cs:ByteArray)=bytesS x):=zhd (by
  apply ByteArray.ext;unfold bytesS textS;rw[yaZ,<-G,<-E,ByteArray.data_append];simp)
 have H:=zhd (fun W=>yj6 cs B W);generalize textS cs=ns at*;clear C hw hl G E A B;go_in;go_wp2_with fail;refine(H.o _).mono ?_;rintro e L ⟨rfl,D⟩;have J:=zhd (((znv w.heap.size w).alloc (znc _) (.cells #[.int .i64 2,cn,cs,.slice la ln lc] 38)).trans (((znv _ _).alloc (znc _) (.cells #[.int .u8 2] 5)).trans (D.mono (by simp))|>.mono (by simp)));clear D;have K:(⟨#[UInt8.ofNat 2]⟩:ByteArray).size=1:=rfl;go_wp2;go_ret;exact⟨by rw[<-I.o];rfl,J.o⟩
theorem yho (n:Nat)(IH:BIH n)(x:Val)(hx:x.parts<=n+1)
  (ck cn:Int)(cs:ByteArray)(la:Option Addr)(ln lc:Nat)(F:Nat->Prop)(w:World)(C:CF F w ⟨ck,cn,cs,la,ln,lc⟩ x)(hw:x.wf)(hl:(yai x).length<=1099511627776)
  (k3:ck=3)(g off:Nat)(E:ELs F w la ln x.list g off):
  Calls Tryz.prog 113 #[.agg #[ck,cn,cs,.slice la ln lc]] w fun e w'=>e= .returned (.string (bytesS x))/\Below w w w'
  :=by
 have f:ck=x.kind:=C.kind;subst k3;have X:=E.max;unfold maxLen at X;have HE:=zhd E;have HI:=zhd IH;have j:=zhd E.len;have u:=zhd (Val.wfL_iff.1 ((Val.wf_eq x).1 hw).2.2.2);have Q:yai x=(3:UInt8)::(ycg ln++yai.bytesL x.list):=by
  rw[yaZ,<-f,E.len];rfl
 have k:=zh2 Q hl;have h:=zhd (fun W=>ydH ln (by omega) W);have N:=yc3 ln;have O:(numS ln).data.toList=ycg ln:=by unfold numS;simp
 have y:=zhd O;have r:IntKind.u64.wrap (ln:Int)=ln:=by simp[IntKind.wrap,IntKind.bits,IntKind.signed];omega
 generalize numS ln=ns at*;clear C E IH hw hl f Q O;go_in;go_wp2_with fail;obtain⟨w1,B⟩:∃w1,w1=(w.alloc (.cells #[.int .i64 3,cn,cs,.slice la ln lc] 38)).alloc (.cells #[.int .u8 3] 5):=⟨_,rfl⟩;have G:w1.heap[w.heap.size]? =some (.cells #[.int .i64 3,cn,cs,.slice la ln lc] 38 (0,0)):=by rw[B];exact yaD
 have a:Below w w w1:=by rw[B];exact(zal).alloc (by simp) _
 rw[<-B];clear B;refine(h.o _).mono ?_;rintro e b ⟨rfl,J⟩;have G:=(J.block _ (zlt G)).trans G;have m:=zca G 3 rfl;have l:=zlt G;have V:=zh2 G (a.trans (J.mono a.size));clear a J G h;have zs:(⟨#[UInt8.ofNat 3]⟩:ByteArray).size=1:=rfl;go_wp2_with fail;go_loopg [4,3] (x.list.length) (fun gk v4 v3 wr=>∃(i:Nat) (S:ByteArray),v4= .int .i64 i/\v3= .string S/\i<=x.list.length/\gk=x.list.length - i/\Hid (S.data.toList++yai.bytesL (x.list.drop i)=yai x/\Below b b wr))
 case atStart=>
  refine⟨0,_,rfl,rfl,znq _,rfl,zhd ⟨?_,znv _ _⟩⟩;rw[k.o.1,ByteArray.data_append,Array.toList_append,y.o];rfl
 case round=>
  obtain⟨i,S,rfl,rfl,hi,I,K⟩:=hrel;have U:=V.o.2.trans (K.o.2.mono V.o.2.size);have Z:=(K.o.2.block _ (zlt V.o.1)).trans V.o.1;have G:=zca Z 3 rfl;have l:=zlt Z;clear Z;have D:S.data.toList.length+(yai.bytesL (x.list.drop i)).length<=1099511627776:=by
   have:=congrArg List.length K.o.1;rw[znk]at this;have:=k.o.2;omega
  have R:S.data.toList.length=S.size:=by simp
  by_cases hin:i<ln
  .obtain⟨z,L,N,Y,P,q,d,q0,q1,q2,m⟩:=HE.o.get U hin
   have c:(i:Int)<ln:=by omega
   have A:=K.o.1;rw[P,ybs]at A D;rw[znk]at D;have CA:=zhd (HI.o z (by have:=Val.parts_lt (v:=x) (zmg N);omega) L.kind L.n L.s L.la L.ln L.lc F wr d (u.o z (zmg N)) (by omega));have p:(bytesS z).size<=1099511627776:=by rw[yeD];omega
   have M:(bytesS z).data.toList=yai z:=by unfold bytesS;simp
   have t:S.size<=1099511627776:=by omega
   have H:=zh5 A U I M (zge N).1;generalize bytesS z=bz at*;subst Y;clear N d P A U I M D R;go_wp2_with fail;refine CA.o.mono ?_;rintro e w5 ⟨rfl,T⟩;have H5:=zhd T;clear T;go_wp2_with fail;go_roundg (x.list.length - (i+1))
   case measure=>have:=H.o.2.2.1;have:=H.o.2.2.2.2;omega
   case rel=>
    refine⟨i+1,_,by simp,rfl,H.o.2.2.2.2,rfl,zhd ⟨?_,K.o.2.trans (H5.o.mono K.o.2.size)⟩⟩;rw[ByteArray.data_append,Array.toList_append,H.o.2.2.2.1,List.append_assoc];exact H.o.1
  .obtain rfl:i=ln:=by have:=j.o;omega
   have A:=K.o.1;rw[zns (by have:=j.o;omega),ydp,List.append_nil]at A;have H:=zh2 A U;have e3:¬(i:Int)<i:=by omega
   clear A U I D R;go_wp2;go_ret;refine⟨?_,H.o.2⟩;rw[show S=bytesS x from ByteArray.ext (by unfold bytesS;rw[<-H.o.1])];rfl
theorem ye8:∀n,BIH n
 |0=>fun x h=>by have:=x.parts_pos;omega
 |n+1=>fun x hx ck cn cs la ln lc F w C hw hl=>by
  obtain⟨g,A,E⟩:=C.l.els;by_cases k1:ck=1
  .exact yjb x ck cn cs la ln lc F w C hw hl k1
  .by_cases k2:ck=2
   .exact yhn x ck cn cs la ln lc F w C hw hl k2
   .by_cases k3:ck=3
    .exact yho n (ye8 n) x hx ck cn cs la ln lc F w C hw hl k3 g A E
    .exact ygb x ck cn cs la ln lc F w C hw hl (by simpa using k1) (by simpa using k2) (by simpa using k3)
def yo5 (w:World)(r:Int)(e:Ending)(w':World):Prop:=∃n:Int,e= .returned (.tuple #[r,n])/\Below w w w'
theorem yja (x:Val)(ck cn:Int)(cs:ByteArray)(la:Option Addr)(ln lc:Nat)(F:Nat->Prop)(w:World)(C:CF F w ⟨ck,cn,cs,la,ln,lc⟩ x)(hw:x.wf):
  Calls Tryz.prog 78 #[.agg #[ck,cn,cs,.slice la ln lc],.int .i64 0,.int .i64 0] w (yo5 w (checkL x)):=by
 have O:=zhd (fun W (hW:Below w w W)=>yf2 _ x (znc _) 0 0 (by decide) (by decide) ck cn cs la ln lc F W (C.keep (S:=fun _=>False) (zkb hW) (fun _ _ f=>f)));have X:=zhd (fun(h:(yai x).length<=1099511627776) W (hW:Below w w W)=>ye8 _ x (znc _) ck cn cs la ln lc F W (C.keep (S:=fun _=>False) (zkb hW) (fun _ _ f=>f)) hw h);have P:=zhd (fun(h:(yan x 0 (0,0)).2=0)=>yeA h);have E:checkL x=bif (yan x 0 (0,0)).2 !=0 then(yan x 0 (0,0)).2 else bif decide (512<(yai x).length)then 2 else 0:=rfl;obtain⟨⟨N,K⟩,hv⟩:∃r,yan x 0 (0,0)=r:=⟨_,rfl⟩;rw[hv]at O P E;dsimp only at P E;have J:=zhd E;clear C hw hv E;go_in;go_wp2_with fail;obtain⟨R,D⟩:∃R,R=w.alloc (.cells #[ck,cn,cs,.slice la ln lc] 38):=⟨_,rfl⟩;have L:=zba D;have M:=zha D;rw[<-D];clear D;refine(O.o _ L).mono ?_;rintro e a ⟨rfl,G⟩;have T:=(G.block _ (zlt M)).trans M;obtain⟨c0,c1,c2,c3,b⟩:=zq4 T;have H:=zhd (L.trans (G.mono L.size));clear L G M T O;cases he:(K==0)with
 |false=>
  have A:=J.o;rw[show(K !=0)=true by simpa using he]at A;have I:=zhd A;clear A;go_wp2_with fail;refine zng (v:=.tuple #[K,N]) (by simp only[results,Tryz.results78];go_simp) rfl ⟨_,by rw[I.o];rfl,H.o⟩
 |true=>
  obtain rfl:K=0:=by simpa using he
  have V:=P.o rfl;have Y:=zhd (X.o (by omega) a H.o);have U:=yeD x;clear he X;cases hc:decide (512<(yai x).length)with
  |true=>
   have A:=J.o;rw[hc]at A;have I:=zhd A;have c:(512:Int)<(bytesS x).size:=by have:=znx hc;omega
   clear A hc U V J;generalize bytesS x=bs at*;go_wp2_with fail;refine Y.o.mono ?_;rintro e Z ⟨rfl,B⟩;have Q:=zhd (H.o.trans (B.mono H.o.size));clear B;go_wp2_with fail;refine zng (v:=.tuple #[.int .i64 2,N]) (by simp only[results,Tryz.results78];go_simp) rfl ⟨_,by rw[I.o];rfl,Q.o⟩
  |false=>
   have A:=J.o;rw[hc]at A;have I:=zhd A;have c:¬(512:Int)<(bytesS x).size:=by have:=zny hc;omega
   clear A hc U V J;generalize bytesS x=bs at*;go_wp2_with fail;refine Y.o.mono ?_;rintro e Z ⟨rfl,B⟩;have Q:=zhd (H.o.trans (B.mono H.o.size));clear B;go_wp2_with fail;refine zng (v:=.tuple #[.int .i64 0,N]) (by simp only[results,Tryz.results78];go_simp) rfl ⟨_,by rw[I.o];rfl,Q.o⟩
theorem ylR {op:Int}(h0:0<=op)(h1:op<33):op=0\/op=1\/op=2\/op=3\/op=4\/op=5\/op=6\/op=7\/op=8\/op=9\/op=10\/op=11\/op=12\/op=13\/op=14\/op=15\/op=16\/op=17\/op=18\/op=19\/op=20\/op=21\/op=22\/op=23\/op=24\/op=25\/op=26\/op=27\/op=28\/op=29\/op=30\/op=31\/op=32:=by omega
end Go.Proofs.YtpagmlndgblhhaaGreatDoor
namespace Go.Va
open Go.Own Go.RowKit Go.Own.MapTy
mutual
theorem yeX:∀(x:Val) (d p:Nat) (e:Int),yan (yaa x) d (p,e)=yan x d (p,e)
 | .mk k n s l,d,p,e=>by
   have h:=ydO l;rw[ycc,ycc (.mk k n s l),yaJ,ybT,clone_list];show(bif e !=0 then(p,e)else bif decide (256<=p)then(p+1,2)else bif k==0||k==1 then(p+1,0)else bif k==2 then(p+1,bif decide (256<(bif k==2 then s else(⟨#[]⟩:ByteArray)).size)then 2 else 0)else bif k==3 then yan.walkL (bif k==3 then l.map yaa else[]) (d+1) (p+1,bif decide (8<=d)then 30 else bif decide (64<(bif k==3 then l.map yaa else[]).length)then 2 else 0)else(p+1,9))=(bif e !=0 then(p,e)else bif decide (256<=p)then(p+1,2)else bif k==0||k==1 then(p+1,0)else bif k==2 then(p+1,bif decide (256<s.size)then 2 else 0)else bif k==3 then yan.walkL l (d+1) (p+1,bif decide (8<=d)then 30 else bif decide (64<l.length)then 2 else 0)else(p+1,9));cases(e !=0)
   .cases decide (256<=p)
    .cases(k==0||k==1)
     .cases(k==2)
      .cases(k==3)
       .rfl
       .simp only[znm,znl,zmd]
        exact h _ _
      .rfl
     .rfl
    .rfl
   .rfl
theorem ydO:∀(l:List Val) (d:Nat) (c:Nat×Int),yan.walkL (l.map yaa) d c=yan.walkL l d c
 |[],d,c=>rfl
 |x::r,d,(p,e)=>by
  have h1:=yeX x d p e;have A:=ydO r;rw[List.map_cons,yaO,yaO,h1,A]
end
theorem yaz (x:Val):checkL (yaa x)=checkL x:=by
 unfold checkL;rw[yeX,yeC]
end Go.Va
namespace Go.Proofs.YtpagmlndgblhhaaGreatDoor
open Go.RowKit Go.Own Go.Own.MapTy Go.Va Go.Sort
def yqI (p:Img)(c:In):Arg:=
 bif (ofL c.op).1.operand==1 then .val (yaa (p.consts[c.a.toNat]?.getD ymq))else
 bif (ofL c.op).1.operand==2 then .name (p.names[c.a.toNat]?.getD ⟨#[]⟩)else
 bif (ofL c.op).1.operand==3 then .place c.a else .int c.a
structure PutOk (l:List (Int×Arg))(n:Nat):Prop where
 fit:∀m∈l,yqC m
 op:∀m∈l,(ofL m.1).2=true
 val:∀op x,(op,Arg.val x)∈l->checkL x=0
 int:∀op k,(op,Arg.int k)∈l->0<=k/\k<(if(ofL op).1.operand=4 then(n:Int)else if(ofL op).1.operand=5 then 17 else 1)
def yqr (p q:Img)(c d:In):Prop:=
 c.op=d.op/\((ofL c.op).1.operand=1->∃(i j:Nat) (x y:Val),c.a=i/\d.a=j/\p.consts[i]? =some x/\q.consts[j]? =some y/\yaa x=yaa y)/\
 ((ofL c.op).1.operand=2->∃(i j:Nat) (s:ByteArray),c.a=i/\d.a=j/\p.names[i]? =some s/\q.names[j]? =some s)/\
 ((ofL c.op).1.operand≠0->(ofL c.op).1.operand≠1->(ofL c.op).1.operand≠2->c.a=d.a)
end Go.Proofs.YtpagmlndgblhhaaGreatDoor
namespace Go.Va
open Go.Own Go.RowKit
open Go.Proofs.YtpagmlndgblhhaaGreatDoor
theorem ybr {x:Val}:checkL x=0↔(yan x 0 (0,0)).2=0/\(yai x).length<=512:=by
 unfold checkL;cases h:((yan x 0 (0,0)).2 !=0)with
 |true=>
  simp only[znm];have A:(yan x 0 (0,0)).2≠0:=by simpa using h
  exact⟨fun e=>absurd e A,fun e=>absurd e.1 A⟩
 |false=>
  simp only[znl];have A:(yan x 0 (0,0)).2=0:=by simpa using h
  cases h3:decide (512<(yai x).length)with
  |true=>exact⟨(fun e=>by cases e),fun e=>by have:=znx h3;omega⟩
  |false=>exact⟨fun _=>⟨A,by have:=zny h3;omega⟩,fun _=>rfl⟩
mutual
theorem yln:∀(x:Val) (d p:Nat),(yan x d (p,0)).2=0->p<=(yan x d (p,0)).1/\∀(d' q:Nat),d'<=d->q<=p->yan x d' (q,0)=(q+((yan x d (p,0)).1 - p),0)
 | .mk k n s l,d,p,h=>by
   rw[yan]at h|-;have e0:((0:Int)!=0)=false:=rfl;rw[e0]at h|-;simp only[znl]at h|-;cases h1:decide (256<=p)with
   |true=>rw[h1]at h;cases h
   |false=>
    have D:=zny h1;rw[h1]at h;simp only[znl]at h|-;have A:∀q:Nat,q<=p->decide (256<=q)=false:=fun q A=>znd (by omega);cases h2:(k==0||k==1)with
    |true=>
     simp only[znm];refine⟨Nat.le_succ _,fun d' q _ hq'=> ?_⟩;rw[yan,e0,A q hq',h2];show(q+1,(0:Int))=_
     congr 1
     omega
    |false=>
     rw[h2]at h;simp only[znl]at h|-;cases h3:(k==2)with
     |true=>
      rw[h3]at h;simp only[znm]at h|-;refine⟨Nat.le_succ _,fun d' q _ hq'=> ?_⟩;rw[yan,e0,A q hq',h2,h3];show(q+1,_)=_;rw[h]
      congr 1
      omega
     |false=>
      rw[h3]at h;simp only[znl]at h|-;cases h4:(k==3)with
      |false=>rw[h4]at h;cases h
      |true=>
       rw[h4]at h;simp only[znm]at h|-;cases h5:decide (8<=d)with
       |true=>
        rw[h5]at h;simp only[znm]at h;rw[ya3 l (d+1) (p+1,30) rfl]at h;cases h
       |false=>
        rw[h5]at h;simp only[znl]at h|-;cases h6:decide (64<l.length)with
        |true=>
         rw[h6]at h;simp only[znm]at h;rw[ya3 l (d+1) (p+1,2) rfl]at h;cases h
        |false=>
         rw[h6]at h;simp only[znl]at h|-;obtain⟨E,C⟩:=ydP l (d+1) (p+1) h;refine⟨by omega,fun d' q hd' hq'=> ?_⟩;have B:decide (8<=d')=false:=znd (by have:=zny h5;omega);rw[yan,e0,A q hq',h2,h3,h4,B,h6];show yan.walkL l (d'+1) (q+1,0)=_;rw[(C (d'+1) (q+1) (by omega) (by omega)).1]
         congr 1
         omega
theorem ydP:∀(l:List Val) (d p:Nat),(yan.walkL l d (p,0)).2=0->p<=(yan.walkL l d (p,0)).1/\∀(d' q:Nat),d'<=d->q<=p->yan.walkL l d' (q,0)=(q+((yan.walkL l d (p,0)).1 - p),0)/\∀x∈l,(yan x d' (q,0)).2=0
 |[],d,p,h=>by
  rw[ya2]at h|-;refine⟨znc _,fun d' q _ _=>⟨?_,fun x hx=>by cases hx⟩⟩;rw[ya2];show(q,(0:Int))=(q+(p - p),0);rw[Nat.sub_self];rfl
 |x::r,d,p,h=>by
  have e0:(((p,(0:Int)):Nat×Int).2 !=0)=false:=rfl;rw[yaO,e0]at h|-;simp only[znl]at h|-;have A:(yan x d (p,0)).2=0:=by
   cases hc:((yan x d (p,0)).2 !=0)with
   |true=>rw[ya3 r d _ hc]at h;exact h
   |false=>simpa using hc
  obtain⟨m,hm⟩:∃m,yan x d (p,0)=(m,0):=⟨_,Prod.ext rfl A⟩;obtain⟨C,F⟩:=yln x d p A;rw[hm]at h C F|-;obtain⟨G,D⟩:=ydP r d m h;have C:p<=m:=C;refine⟨by omega,fun d' q hd hq=> ?_⟩;have E:yan x d' (q,0)=(q+(m - p),0):=F d' q hd hq;obtain⟨c1,_⟩:=D d' (q+(m - p)) hd (by omega);refine⟨?_,fun y B=> ?_⟩
  .rw[yaO]
   show yan.walkL r d' (yan x d' (q,0))=_;rw[E,c1]
   congr 1
   omega
  .rcases List.mem_cons.1 B with rfl|B
   .rw[E]
   .exact(D d' q hd (by omega)).2 y B
end
theorem yjx {n:Int}{s:ByteArray}{l:List Val}(h:checkL (.mk 3 n s l)=0){x:Val}(hx:x∈l):checkL x=0:=by
 obtain⟨A,B⟩:=ybr.1 h;rw[yan]at A;have A:(yan.walkL l 1 (1,bif decide (64<l.length)then 2 else 0)).2=0:=A;have C:¬64<l.length:=by
  intro e;rw[zno e]at A;rw[show(bif true then(2:Int)else 0)=2 from rfl,ya3 l 1 (1,2) rfl]at A;cases A
 rw[znd C]at A;refine ybr.2 ⟨((ydP l 1 1 A).2 0 0 (by omega) (by omega)).2 x hx,?_⟩;rw[yai]at B;have B:(UInt8.ofNat _::(ycg l.length++yai.bytesL l)).length<=512:=B;rw[List.length_cons,znk]at B;have:=yfl hx;omega
theorem yb9:checkL yag=0:=by kernel_rfl
theorem yk4 (n:Int):checkL (ybD n)=0:=by
 refine ybr.2 ⟨rfl,?_⟩;rw[ybD,yai];have:=ybJ (zigL n);show(UInt8.ofNat _::ycg (zigL n)).length<=512;rw[List.length_cons];omega
theorem yju {s:ByteArray}(h:s.size<=64):checkL (ybZ s)=0:=by
 refine ybr.2 ⟨?_,?_⟩
 .rw[ybZ,yan]
  show(bif decide (256<s.size)then(2:Int)else 0)=0;rw[znd (by omega)];rfl
 .rw[ybZ,yai]
  show(UInt8.ofNat _::textB s.data.toList).length<=512;rw[List.length_cons];unfold textB;have:=ybJ s.data.toList.length;have A:s.data.toList.length=s.size:=by simp
  rw[znk];omega
def Okv (x:Val):Prop:=checkL x=0/\x.wf
end Go.Va
namespace Go.Va
open Go.Own Go.RowKit Go.Own.MapTy Go.Sort
open Go.Own.Cells (sz enc)
theorem IAt.below {F:Nat->Prop}{w w':World}{i:IC}{p:Img}(h:IAt F w i p)(B:Below w w w'):IAt F w' i p:=h.keep (S:=fun _=>False) (zkb B) (fun _ _ f=>f)
theorem IAt.code_at {F:Nat->Prop}{w wr:World}{i:IC}{p:Img}(h:IAt F w i p)(B:Below w w wr){k:Nat}{c:In}(hx:p.code[k]? =some c):∃g off,i.ca=some ⟨g,off,none⟩/\F g/\g<w.heap.size/\g<wr.heap.size/\wr.cell? ⟨g,off+k*2,none⟩=some (.int .i64 c.op)/\wr.cell? ⟨g,off+k*2+1,none⟩=some (.int .i64 c.a):=by
 obtain⟨_,_,g,off,E,D⟩:=h.code.elems;obtain⟨I,C,A⟩:=D k c hx;have E:=E.resolve_right (fun e=>by rw[e]at hx;simp at hx);have H:=A 0 _ rfl;have G:=A 1 _ rfl;rw[show off+(k*sz In+0)=off+k*2 from rfl,<-B.cell (p:=⟨g,_,none⟩) C]at H;rw[show off+(k*sz In+1)=off+k*2+1 from rfl,<-B.cell (p:=⟨g,_,none⟩) C]at G;exact⟨g,off,E,I,C,znj C B.size,H,G⟩
theorem IAt.name_at {F:Nat->Prop}{w wr:World}{i:IC}{p:Img}(h:IAt F w i p)(B:Below w w wr){k:Nat}{c:ByteArray}(hx:p.names[k]? =some c):∃g off,i.na=some ⟨g,off,none⟩/\F g/\g<w.heap.size/\g<wr.heap.size/\wr.cell? ⟨g,off+k,none⟩=some (.string c):=by
 obtain⟨_,_,g,off,E,C⟩:=h.names.elems;obtain⟨H,A,D⟩:=C k c hx;have E:=E.resolve_right (fun e=>by rw[e]at hx;simp at hx);have G:=D 0 _ rfl;rw[show off+(k*sz ByteArray+0)=off+k from by simp[Cells.sz],<-B.cell (p:=⟨g,_,none⟩) A]at G;exact⟨g,off,E,H,A,znj A B.size,G⟩
theorem IAt.const_at {F:Nat->Prop}{w wr:World}{i:IC}{p:Img}(h:IAt F w i p)(B:Below w w wr){k:Nat}{x:Val}(hx:p.consts[k]? =some x):∃g off c,i.ka=some ⟨g,off,none⟩/\F g/\g<w.heap.size/\g<wr.heap.size/\CF F wr c x/\
  wr.cell? ⟨g,off+k*4,none⟩=some (.int .i64 c.kind)/\wr.cell? ⟨g,off+k*4+1,none⟩=some (.int .i64 c.n)/\wr.cell? ⟨g,off+k*4+2,none⟩=some (.string c.s)/\wr.cell? ⟨g,off+k*4+3,none⟩=some (.slice c.la c.ln c.lc):=by
 obtain⟨_,_,A⟩:=h.consts.elems;obtain⟨g,off,I,J,C,A⟩:=A.resolve_left (fun e=>by rw[e]at hx;simp at hx);obtain⟨c,K,H,G,E,D⟩:=A k x hx;rw[<-B.cell (p:=⟨g,_,none⟩) C]at H G E D;exact⟨g,off,c,I,J,C,znj C B.size,K.keep (S:=fun _=>False) (zkb B) (fun _ _ f=>f),H,G,E,D⟩
end Go.Va
namespace Go.Proofs.YtpagmlndgblhhaaGreatDoor
open Go.RowKit Go.Own Go.Own.MapTy Go.Va Go.Sort
open Go.Own.Cells (sz enc)
def BoxI (w:World)(b:Nat)(i:IC):Prop:=w.heap[b]? =some (.cells #[.slice i.ca i.cn i.cc,.slice i.ka i.kn i.kc,.slice i.na i.nn i.nc,i.pl] 28 (0,0))
theorem BoxI.c0 {w:World}{b:Nat}{i:IC}(h:BoxI w b i):w.cell? ⟨b,0,none⟩=some (.slice i.ca i.cn i.cc):=by rw[zch h];rfl
theorem BoxI.c1 {w:World}{b:Nat}{i:IC}(h:BoxI w b i):w.cell? ⟨b,1,none⟩=some (.slice i.ka i.kn i.kc):=by rw[zch h];rfl
theorem BoxI.c2 {w:World}{b:Nat}{i:IC}(h:BoxI w b i):w.cell? ⟨b,2,none⟩=some (.slice i.na i.nn i.nc):=by rw[zch h];rfl
theorem BoxI.c3 {w:World}{b:Nat}{i:IC}(h:BoxI w b i):w.cell? ⟨b,3,none⟩=some (.int .i64 i.pl):=by rw[zch h];rfl
theorem BoxI.lt {w:World}{b:Nat}{i:IC}(h:BoxI w b i):b<w:=zlt h
theorem BoxI.below {w w':World}{b:Nat}{i:IC}(h:BoxI w b i)(B:Below w w w'):BoxI w' b i:=(B.block b h.lt).trans h
theorem yc9 {α:Type}{l:List α}{i:Nat}{x:α}(h:l[i]? =some x):l.drop i=x::l.drop (i+1):=by
 rw[znr (zge h).1,(zge h).2]
end Go.Proofs.YtpagmlndgblhhaaGreatDoor
namespace Go.Va
open Go.Own Go.RowKit
def yqp:Val->Val->Int
 | .mk k n s l,y=>
   bif k !=y.kind then wrap64 (k - y.kind)else
   bif k==1 then(bif decide (n<y.num)then -1 else bif decide (y.num<n)then 1 else 0)else
   bif k==2 then(bif Op.bytesLess s.toList y.txt.toList then -1 else bif !(Op.bytesLess s.toList y.txt.toList||s.toList==y.txt.toList)then 1 else 0)else
   bif k !=3 then 0 else cmpRs l y.list ((l.length:Int) - y.list.length)
where cmpRs:List Val->List Val->Int->Int
 |[],_,d=>d
 |_::_,[],d=>d
 |x::r,y::s,d=>bif yqp x y !=0 then yqp x y else cmpRs r s d
mutual
theorem ya9:∀x:Val,x.wf->(yaa x).wf
 | .mk k n s l,h=>by
   have h2:=(Val.wf_eq _).1 h;have A:=ygG l (Val.wfL_iff.1 h2.2.2.2);rw[Val.wf_eq,yaJ,yb8,ybT,clone_list];refine⟨h2.1,?_,?_,?_⟩
   .have:=h2.2.1
    show _<=(bif k==1 then n else 0)/\(bif k==1 then n else 0)<=_;cases(k==1)
    .simp
    .exact this
   .have:=h2.2.2.1
    show(bif k==2 then s else(⟨#[]⟩:ByteArray)).size<=_;cases(k==2)
    .exact znq _
    .exact this
   .show Val.wf.wfL (bif k==3 then l.map yaa else[])
    rw[Val.wfL_iff];cases(k==3)
    .intro x B;cases B
    .exact A
theorem ygG:∀l:List Val,(∀x∈l,x.wf)->∀x∈l.map yaa,x.wf
 |[],_,x,h=>by cases h
 |y::r,hw,x,h=>by
  have h1:=ya9 y (hw y zmf);have A:=ygG r (fun z hz=>hw z (zme _ hz));rw[List.map_cons]at h;rcases List.mem_cons.1 h with rfl|h
  .exact h1
  .exact A x h
end
end Go.Va
namespace Go.Proofs.YtpagmlndgblhhaaGreatDoor
open Go.RowKit Go.Own Go.Own.MapTy Go.Va Go.Sort
open Go.Own.Cells (sz enc)
def yqz (c:In):List UInt8:=UInt8.ofNat (c.op%256).toNat::(bif (ofL c.op).1.operand==0 then[]else ycg c.a.toNat)
def yqA (p:Img):List UInt8:=
 ycg p.places.toNat++ycg p.consts.length++p.consts.flatMap yai++ycg p.names.length++p.names.flatMap (fun s=>Go.Va.textB s.data.toList)++ycg p.code.length++p.code.flatMap yqz
structure Sofar (p:Img)(S:ByteArray)(rest:List UInt8):Prop where
 e:S.data.toList++rest=yqA p
 le:S.size<=1000000
end Go.Proofs.YtpagmlndgblhhaaGreatDoor
