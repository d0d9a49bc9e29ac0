/- Parts of the proof: what the functions and the plain laws give that later parts lean on. Conditions: none beyond those that each theorem names. -/
import Derived.Test.YtakljipkaoahnaaGreatDoorA16
set_option maxRecDepth 100000
set_option maxHeartbeats 8000000
namespace Go.Va
open Go.Own Go.RowKit Go.Own.MapTy
theorem compareBytes_zero:∀(a b:List UInt8),Lib.compareBytes a b=0↔a=b
 |[],[]=>by simp[Lib.compareBytes]
 |[],_::_=>by simp[Lib.compareBytes]
 |_::_,[]=>by simp[Lib.compareBytes]
 |a::xs,b::ys=>by
  rw[Lib.compareBytes]
  by_cases h1:a<b
  ·rw[if_pos h1]
   refine⟨fun h=>by simp at h,fun h=> ?_⟩
   obtain⟨rfl,_⟩:=List.cons.inj h
   exact absurd h1 (UInt8.lt_irrefl _)
  ·rw[if_neg h1]
   by_cases h2:b<a
   ·rw[if_pos h2]
    refine⟨fun h=>by simp at h,fun h=> ?_⟩
    obtain⟨rfl,_⟩:=List.cons.inj h
    exact absurd h2 (UInt8.lt_irrefl _)
   ·rw[if_neg h2,compareBytes_zero xs ys]
    have e:a=b:=UInt8.le_antisymm (UInt8.not_lt.1 h2) (UInt8.not_lt.1 h1)
    rw[e]
    simp
theorem cond_ne (b:Bool):¬(bif b then(-1:Int)else 1)=0:=by cases b<;>decide
theorem bytes_inj {a b:ByteArray}:a.data.toList=b.data.toList↔a=b:=⟨fun h=>ByteArray.ext (Array.toList_inj.1 h),fun h=>by rw[h]⟩
theorem Val.ext4 {x y:Val}:x=y↔x.kind=y.kind∧x.num=y.num∧x.txt=y.txt∧x.list=y.list:=by
 cases x;cases y
 simp[Val.kind,Val.num,Val.txt,Val.list]
theorem clone_kind (x:Val):(cloneV x).kind=x.kind:=by rw[cloneV_eq];rfl
theorem clone_num (x:Val):(cloneV x).num=bif x.kind==1 then x.num else 0:=by rw[cloneV_eq];rfl
theorem clone_txt (x:Val):(cloneV x).txt=bif x.kind==2 then x.txt else⟨#[]⟩:=by rw[cloneV_eq];rfl
theorem clone_list (x:Val):(cloneV x).list=bif x.kind==3 then x.list.map cloneV else[]:=by rw[cloneV_eq,cloneL_map];rfl
mutual
theorem cmp_zero:∀x y:Val,cmpV x y=0↔cloneV x=cloneV y
 | .mk k n s l,y=>by
   rw[cmpV_eq,Val.ext4,clone_kind,clone_kind,clone_num,clone_num,clone_txt,clone_txt,clone_list,clone_list]
   show(bif k !=y.kind then _ else bif k==1 then(bif n !=y.num then _ else _)else bif k==2 then Lib.compareBytes s.data.toList _ else bif k==3 then cmpV.cmpLs l y.list else 0)=0↔k=y.kind∧(bif k==1 then n else 0)=_∧(bif k==2 then s else _)=_∧(bif k==3 then l.map cloneV else _)=_
   by_cases hk:k=y.kind
   ·rw[←hk]
    have e0:(k !=k)=false:=by simp
    rw[e0]
    by_cases h1:k=1
    ·subst h1
     simp only[beq_self_eq_true,cond_true,cond_false,true_and,show((1:Int)==2)=false from rfl,show((1:Int)==3)=false from rfl,and_true]
     by_cases hn:n=y.num
     ·rw[hn];simp
     ·have:(n !=y.num)=true:=by simpa using hn
      rw[this]
      simp only[cond_true,hn,iff_false]
      exact cond_ne _
    ·have e1:(k==1)=false:=by simpa using h1
     by_cases h2:k=2
     ·subst h2
      simp only[beq_self_eq_true,cond_true,cond_false,true_and,show((2:Int)==1)=false from rfl,show((2:Int)==3)=false from rfl,and_true]
      rw[compareBytes_zero,bytes_inj]
     ·have e2:(k==2)=false:=by simpa using h2
      by_cases h3:k=3
      ·subst h3
       simp only[beq_self_eq_true,cond_true,cond_false,true_and,show((3:Int)==1)=false from rfl,show((3:Int)==2)=false from rfl]
       exact cmpL_zero l y.list
      ·have e3:(k==3)=false:=by simpa using h3
       simp[e1,e2,e3]
   ·have e0:(k !=y.kind)=true:=by simpa using hk
    rw[e0]
    simp only[cond_true,hk,false_and,iff_false]
    exact cond_ne _
theorem cmpL_zero:∀xs ys:List Val,cmpV.cmpLs xs ys=0↔xs.map cloneV=ys.map cloneV
 |[],[]=>by rw[cmpL_nil];simp
 |[],y::s=>by rw[cmpL_nil];simp
 |x::r,[]=>by rw[cmpL_one];simp
 |x::r,y::s=>by
  have h1:=cmp_zero x y
  have h2:=cmpL_zero r s
  rw[cmpL_cons,List.map_cons,List.map_cons]
  by_cases h:cmpV x y=0
  ·have e:(cmpV x y !=0)=false:=by simpa using h
   rw[e,cond_false,h2,h1.1 h]
   simp
  ·have e:(cmpV x y !=0)=true:=by simpa using h
   rw[e,cond_true]
   refine⟨fun hh=>absurd hh h,fun hh=>absurd (h1.2 ?_) h⟩
   exact(List.cons.inj hh).1
end
end Go.Va
namespace Go.Proofs.YtakljipkaoahnaaGreatDoor
open Go.RowKit Go.Own Go.Own.MapTy Go.Va Go.Sort
def argS (p:Img)(L:List (Int×ByteArray))(o:Int)(a:Nat):ByteArray:=
 bif o==1 then printV (p.consts[a]?.getD vNil)else bif o==2 then quoteB (p.names[a]?.getD ⟨#[]⟩)else bif o==4 then(MapTy.get L (a:Int)).getD ⟨#[]⟩else itoaB (a:Int)
def argP (p:Img)(L:List (Int×ByteArray))(o:Int)(a:Nat):List UInt8:=
 bif o==1||(o==2||(o==4||(o==3||o==5)))then(⟨#[32]⟩++argS p L o a:ByteArray).data.toList else[]
def headP (L:List (Int×ByteArray))(i:Nat):List UInt8:=match MapTy.get L (i:Int)with
 |some s=>(s++⟨#[58,10]⟩).data.toList
 |none=>[]
def lineP (p:Img)(L:List (Int×ByteArray))(i:Nat)(c:In):List UInt8:=
 headP L i++((⟨#[32,32]⟩++(ofL c.op).1.name:ByteArray).data.toList++(argP p L (ofL c.op).1.operand c.a.toNat++[10]))
def codeP (p:Img)(L:List (Int×ByteArray)):Nat→List In→List UInt8
 |_,[]=>[]
 |i,c::r=>lineP p L i c++codeP p L (i+1) r
def asmP (p:Img):ByteArray×Int:=bif imgL p !=0 then(⟨#[]⟩,imgL p)else(⟨(codeP p (labsL p.code) 0 p.code).toArray⟩,0)
mutual
theorem szV_bytes:∀x:Val,szV x+1≤34*(bytesV x).length
 | .mk k n s l=>by
   rw[szV,bytesV]
   cases h2:(k==2)with
   |true=>
    obtain rfl:k=2:=by simpa using h2
    have h1:1≤(numB s.data.toList.length).length:=by
     unfold numB
     rw[numF]
     cases decide (128≤s.data.toList.length)<;>simp
    show 4*s.size+30+1≤34*((Go.Va.textB s.data.toList).length+1)
    unfold Go.Va.textB
    have e:s.data.toList.length=s.size:=by simp
    rw[List.length_append]
    omega
   |false=>
    cases h3:(k==3)with
    |true=>
     obtain rfl:k=3:=by simpa using h3
     have h:=szL_bytes l
     show szV.szL l+30+1≤34*((numB l.length++bytesV.bytesL l).length+1)
     rw[List.length_append]
     omega
    |false=>simp;omega
theorem szL_bytes:∀l:List Val,szV.szL l≤34*(bytesV.bytesL l).length
 |[]=>by rw[szV.szL,bytesV.bytesL];simp
 |x::r=>by
  rw[szV.szL,bytesV.bytesL,List.length_append]
  have h1:=szV_bytes x
  have h2:=szL_bytes r
  omega
end
theorem check_len {x:Val}(h:checkL x=0):(bytesV x).length≤512:=by
 unfold checkL at h
 cases h1:((walkV x 0 (0,0)).2 !=0)with
 |true=>rw[h1]at h;simp at h h1;exact absurd h h1
 |false=>
  rw[h1]at h
  cases h2:decide (512<(bytesV x).length)with
  |true=>rw[h2]at h;simp at h
  |false=>rw[decide_eq_false_iff_not]at h2;omega
theorem consts_ok:∀{l:List Val},constErr l=0→∀x∈l,checkL x=0
 |[],_,x,h=>by cases h
 |y::r,hc,x,h=>by
  rw[constErr]at hc
  cases h1:(checkL y !=0)with
  |true=>rw[h1]at hc;simp at hc h1;exact absurd hc h1
  |false=>
   rw[h1]at hc
   rcases List.mem_cons.1 h with rfl|h
   ·simpa using h1
   ·exact consts_ok hc x h
theorem names_ok:∀{l:List ByteArray},nameErr l=0→∀x∈l,x.size≤64
 |[],_,x,h=>by cases h
 |y::r,hc,x,h=>by
  rw[nameErr]at hc
  cases h1:decide (64<y.size)with
  |true=>rw[h1]at hc;simp at hc
  |false=>
   rw[h1]at hc
   rcases List.mem_cons.1 h with rfl|h
   ·rw[decide_eq_false_iff_not]at h1;omega
   ·exact names_ok hc x h
theorem const_sz {p:Img}(h:imgL p=0)(x:Val)(hx:x∈p.consts):szV x≤20000:=by
 have h1:=check_len (consts_ok (imgL_ok h).2.2.2.2.2.2.1 x hx)
 have h2:=szV_bytes x
 omega
theorem get_lab1:∀(code:List In) (m:List (Int×ByteArray)) (x:Int) (s:ByteArray),(∀x s,MapTy.get m x=some s→s.size≤22)→MapTy.get (lab1 m code) x=some s→s.size≤22
 |[],m,x,s,hm,h=>hm x s h
 |c::r,m,x,s,hm,h=>by
  rw[lab1]at h
  refine get_lab1 r _ x s (fun y t ht=> ?_) h
  cases h4:((ofL c.op).1.operand==4)with
  |false=>rw[h4]at ht;exact hm y t ht
  |true=>
   rw[h4]at ht
   simp only[cond_true,get_upd]at ht
   split at ht
   ·cases ht;exact Nat.zero_le _
   ·exact hm y t ht
theorem get_lab2:∀(f i n:Nat) (m:List (Int×ByteArray)) (x:Int) (s:ByteArray),n+f≤65536→(∀x s,MapTy.get m x=some s→s.size≤22)→MapTy.get (lab2 m i n f) x=some s→s.size≤22
 |0,_,_,m,x,s,_,hm,h=>hm x s h
 |f+1,i,n,m,x,s,hf,hm,h=>by
  rw[lab2]at h
  cases h4:(MapTy.get m (i:Int)).isSome with
  |false=>rw[h4]at h;exact get_lab2 f _ _ m x s (by omega) hm h
  |true=>
   rw[h4]at h
   refine get_lab2 f _ _ _ x s (by omega) (fun y t ht=> ?_) h
   rw[get_upd]at ht
   split at ht
   ·cases ht
    have:=itoaB_size (n:=((n+1:Nat):Int)) (by omega) (by omega)
    unfold labName
    rw[ByteArray.size_append]
    show 1+_≤22
    omega
   ·exact hm y t ht
theorem lab_size {code:List In}(h:code.length≤512){x:Int}{s:ByteArray}(hs:MapTy.get (labsL code) x=some s):s.size≤22:=
 get_lab2 _ _ _ _ x s (by omega) (fun y t ht=>get_lab1 code [] y t (fun _ _ h=>by simp[MapTy.get]at h) ht) hs
theorem labD_size {code:List In}(h:code.length≤512)(x:Int):((MapTy.get (labsL code) x).getD ⟨#[]⟩).size≤22:=by
 cases hg:MapTy.get (labsL code) x with
 |none=>exact Nat.zero_le _
 |some s=>exact lab_size h hg
theorem name_size (op:Int):(ofL op).1.name.size≤10:=by
 by_cases h:0≤op∧op≤32
 ·obtain⟨k,rfl⟩:∃k:Nat,op=k:=⟨op.toNat,by omega⟩
  have H:∀k:Fin 33,(ofL (k.1:Int)).1.name.size≤10:=by decide+kernel
  exact H ⟨k,by omega⟩
 ·have e:∀j:Int,0≤j→j≤32→(op==j)=false:=fun j h1 h2=>by rw[beq_eq_false_iff_ne];omega
  simp only[ofL,waitsL,e 0 (by decide) (by decide),e 1 (by decide) (by decide),e 2 (by decide) (by decide),e 3 (by decide) (by decide),e 4 (by decide) (by decide),e 5 (by decide) (by decide),e 6 (by decide) (by decide),e 7 (by decide) (by decide),e 8 (by decide) (by decide),e 9 (by decide) (by decide),e 10 (by decide) (by decide),e 11 (by decide) (by decide),e 12 (by decide) (by decide),e 13 (by decide) (by decide),e 14 (by decide) (by decide),e 15 (by decide) (by decide),e 16 (by decide) (by decide),e 17 (by decide) (by decide),e 18 (by decide) (by decide),e 19 (by decide) (by decide),e 20 (by decide) (by decide),e 21 (by decide) (by decide),e 22 (by decide) (by decide),e 23 (by decide) (by decide),e 24 (by decide) (by decide),e 25 (by decide) (by decide),e 26 (by decide) (by decide),e 27 (by decide) (by decide),e 28 (by decide) (by decide),e 29 (by decide) (by decide),e 30 (by decide) (by decide),e 31 (by decide) (by decide),e 32 (by decide) (by decide),cond_false]
  exact Nat.zero_le _
end Go.Proofs.YtakljipkaoahnaaGreatDoor
