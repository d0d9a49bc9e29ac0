/- Parts of the proof: what the functions and the plain laws give that later parts lean on. Conditions: none beyond those that each theorem names. -/
import Derived.Test.YtakljipkaoahnaaGreatDoorA21
set_option maxRecDepth 100000
set_option maxHeartbeats 8000000
namespace Go.Proofs.YtakljipkaoahnaaGreatDoor
open Go.RowKit Go.Own Go.Own.MapTy Go.Va Go.Sort
theorem findFrom_get {name:ByteArray}:∀{n k j:Nat},findFrom name n k=some j→k≤j∧j<k+n∧(ofL j).1.name.data.toList=name.data.toList
 |0,_,_,h=>by cases h
 |n+1,k,j,h=>by
  rw[findFrom]at h
  cases hc:((ofL k).2&&(ofL k).1.name.data.toList==name.data.toList)with
  |true=>
   rw[hc]at h
   cases h
   rw[Bool.and_eq_true,beq_iff_eq]at hc
   exact⟨Nat.le_refl _,by omega,hc.2⟩
  |false=>
   rw[hc]at h
   have:=findFrom_get h
   exact⟨by omega,by omega,this.2.2⟩
def mkL (x:List UInt8):ByteArray:=⟨x.toArray⟩
def asmT (ls:List ByteArray):Img×Int×Int:=
 let q:=linesR ls 0 st0
 bif q.1.2 !=0 then(noImg,q.1.1,q.1.2)else
 let j:=jumpsR q.2.labels q.2.jumps q.2.code
 bif j.1.2 !=0 then(noImg,j.1.1,j.1.2)else
 let p:Img:=⟨j.2,q.2.consts,q.2.names,q.2.places⟩
 bif imgL p !=0 then(noImg,0,imgL p)else(p,0,0)
theorem asmL_T {s:ByteArray}{ls:List (List UInt8)}(h0:0<ls.length)(hs:s.data.toList=textB ls)(hn:∀x∈ls,10∉x)(hb:s.size≤65536):asmL s=asmT (ls.map mkL):=by
 cases ls with
 |nil=>simp at h0
 |cons l r=>
  unfold asmL
  rw[decide_eq_false (show¬65536<s.size by omega),hs,suffix_text]
  simp only[cond_false,Bool.not_true]
  rw[textL_eq hs hn]
  rfl
inductive LM where
 |lab (l:ByteArray)
 |ins (op:Int) (a:Arg)
 |jmp (op:Int) (l:ByteArray)
 |bad (e:Int)
def operM (op kind:Int)(s:ByteArray):LM:=
 if kind=1 then(if(parseV s.data.toList).2≠0 then .bad (parseV s.data.toList).2 else .ins op (.val (parseV s.data.toList).1))else
 if kind=2 then(match quotedL s.data.toList with
  |none=>.bad 8
  |some n=>.ins op (.name n))else
 if kind=4 then(if labL s.data.toList=true then .jmp op s else .bad 8)else
 match numberL s.data.toList with
 |none=>.bad 8
 |some n=>.ins op (if kind=3 then .place n else .int n)
def lineM (s:ByteArray):LM:=
 if isLab s=true then .lab (trimB s)else
 if Lib.hasPrefix s.data.toList [32,32]=false then .bad 8 else
 match findL (cutN s)with
 |none=>.bad 110
 |some op=>
  if cutM s≠((ofL op).1.operand !=0)then .bad 8 else
  if cutM s=true then operM op (ofL op).1.operand (cutR s)else .ins op (.int 0)
def putJ (op n:Int)(l:ByteArray)(st:RSt):RSt:={st with jumps:=st.jumps++[⟨st.code.length,n,l⟩],code:=st.code++[⟨op,0⟩]}
theorem lineL_M (n:Int)(s:ByteArray)(st:RSt):match lineM s with
  | .lab l=>lineL n s st=if(MapTy.get st.labels l).isSome=true then(5,st)else(0,{st with labels:=upd st.labels l st.code.length})
  | .ins op a=>lineL n s st=(0,putI (op,a) st)
  | .jmp op l=>lineL n s st=(0,putJ op n l st)
  | .bad e=>e≠0∧∃st',lineL n s st=(e,st'):=by
 unfold lineM
 by_cases h1:isLab s=true
 ·rw[if_pos h1]
  dsimp only
  unfold lineL
  rw[if_pos h1]
 ·rw[if_neg h1]
  by_cases h2:Lib.hasPrefix s.data.toList [32,32]=false
  ·rw[if_pos h2]
   dsimp only
   refine⟨by decide,st,?_⟩
   unfold lineL
   rw[if_neg h1,if_pos h2]
  ·rw[if_neg h2]
   cases h3:findL (cutN s)with
   |none=>
    dsimp only
    refine⟨by decide,st,?_⟩
    unfold lineL
    rw[if_neg h1,if_neg h2,h3]
   |some op=>
    dsimp only
    by_cases h4:cutM s≠((ofL op).1.operand !=0)
    ·rw[if_pos h4]
     dsimp only
     refine⟨by decide,st,?_⟩
     unfold lineL
     rw[if_neg h1,if_neg h2,h3]
     dsimp only
     rw[if_pos h4]
    ·rw[if_neg h4]
     have hL:lineL n s st=(if cutM s=true then(if(operL (ofL op).1.operand n (cutR s) st).2.1≠0 then((operL (ofL op).1.operand n (cutR s) st).2.1,(operL (ofL op).1.operand n (cutR s) st).2.2)else
   (0,{(operL (ofL op).1.operand n (cutR s) st).2.2 with code:=(operL (ofL op).1.operand n (cutR s) st).2.2.code++[⟨op,(operL (ofL op).1.operand n (cutR s) st).1⟩]}))else
  (0,{st with code:=st.code++[⟨op,0⟩]})):=by
      unfold lineL
      rw[if_neg h1,if_neg h2,h3]
      dsimp only
      rw[if_neg h4]
     by_cases h5:cutM s=true
     ·rw[if_pos h5]
      rw[if_pos h5]at hL
      rw[hL]
      clear hL
      generalize(ofL op).1.operand=k
      unfold operM
      by_cases k1:k=1
      ·have ho:operL k n (cutR s) st=(if(parseV (cutR s).data.toList).2≠0 then(0,(parseV (cutR s).data.toList).2,st)else(((addV (parseV (cutR s).data.toList).1 st.consts).1:Int),0,{st with consts:=(addV (parseV (cutR s).data.toList).1 st.consts).2})):=by unfold operL;rw[if_pos k1]
       rw[ho,if_pos k1]
       by_cases h6:(parseV (cutR s).data.toList).2≠0
       ·rw[if_pos h6,if_pos h6]
        exact⟨h6,st,by rw[if_pos h6]⟩
       ·rw[if_neg h6,if_neg h6]
        rfl
      ·rw[if_neg k1]
       by_cases k2:k=2
       ·rw[if_pos k2]
        cases hq:quotedL (cutR s).data.toList with
        |none=>
         have ho:operL k n (cutR s) st=(0,8,st):=by unfold operL;rw[if_neg k1,if_pos k2,hq]
         rw[ho]
         exact⟨by decide,st,rfl⟩
        |some nm=>
         have ho:operL k n (cutR s) st=(((addN nm st.names).1:Int),0,{st with names:=(addN nm st.names).2}):=by unfold operL;rw[if_neg k1,if_pos k2,hq]
         rw[ho]
         rfl
       ·rw[if_neg k2]
        by_cases k4:k=4
        ·have ho:operL k n (cutR s) st=(if labL (cutR s).data.toList=true then(0,0,{st with jumps:=st.jumps++[⟨st.code.length,n,cutR s⟩]})else(0,8,st)):=by unfold operL;rw[if_neg k1,if_neg k2,if_pos k4]
         rw[ho,if_pos k4]
         by_cases h6:labL (cutR s).data.toList=true
         ·rw[if_pos h6,if_pos h6]
          rfl
         ·rw[if_neg h6,if_neg h6]
          exact⟨by decide,st,rfl⟩
        ·rw[if_neg k4]
         cases hq:numberL (cutR s).data.toList with
         |none=>
          have ho:operL k n (cutR s) st=(0,8,st):=by unfold operL;rw[if_neg k1,if_neg k2,if_neg k4,hq]
          rw[ho]
          exact⟨by decide,st,rfl⟩
         |some nm=>
          have ho:operL k n (cutR s) st=((nm:Int),0,if k=3 then{st with places:=max st.places (nm+1)}else st):=by unfold operL;rw[if_neg k1,if_neg k2,if_neg k4,hq]
          rw[ho]
          dsimp only
          by_cases k3:k=3
          ·rw[if_pos k3,if_pos k3]
           rfl
          ·rw[if_neg k3,if_neg k3]
           rfl
     ·rw[if_neg h5]
      rw[if_neg h5]at hL
      exact hL
def fitM:LM→Prop
 | .lab _=>True
 | .ins op a=>fitA (op,a)∧(ofL op).2=true∧(∀x,a= .val x→checkL x=0)∧(∀k,a= .int k→(ofL op).1.operand≠4∧0≤k∧((ofL op).1.operand=0→k=0))
 | .jmp op _=>(ofL op).1.operand=4∧(ofL op).2=true
 | .bad _=>True
theorem parseV_check {s:List UInt8}(h:(parseV s).2=0):checkL (parseV s).1=0:=by
 unfold parseV at h⊢
 cases hv:valR 8 s 0 with
 |deep=>rw[hv]at h;simp at h
 |bad=>rw[hv]at h;simp at h
 |ok x k=>
  rw[hv]at h
  dsimp only at h⊢
  by_cases h1:k<s.length
  ·rw[if_pos h1]at h;simp at h
  ·rw[if_neg h1]at h⊢
   by_cases h2:checkL x≠0
   ·rw[if_pos h2]at h;exact absurd h h2
   ·rw[if_neg h2]
    simpa using h2
theorem line_fit (s:ByteArray):fitM (lineM s):=by
 unfold lineM
 split
 ·trivial
 ·split
  ·trivial
  ·split
   ·trivial
   ·rename_i op hf
    have hop:(ofL (op:Int)).2=true:=by
     obtain⟨_,hk,_⟩:=findFrom_get hf
     exact ok_fin ⟨op,by omega⟩
    split
    ·trivial
    ·rename_i h4
     have h4:cutM s=((ofL op).1.operand !=0):=by simpa using h4
     split
     ·rename_i h5
      have hk0:(ofL op).1.operand≠0:=by rw[h5]at h4;simpa using h4.symm
      generalize hk:(ofL op).1.operand=k at*
      unfold operM
      split
      ·rename_i k1
       split
       ·trivial
       ·rename_i h6
        refine⟨by show(ofL op).1.operand=1;rw[hk,k1],hop,fun x e=> ?_,fun j e=>(by cases e)⟩
        cases e
        exact parseV_check (by simpa using h6)
      ·rename_i k1
       split
       ·rename_i k2
        cases quotedL (cutR s).data.toList with
        |none=>trivial
        |some nm=>exact⟨by show(ofL op).1.operand=2;rw[hk,k2],hop,fun x e=>(by cases e),fun j e=>(by cases e)⟩
       ·rename_i k2
        split
        ·rename_i k4
         split
         ·exact⟨by rw[hk,k4],hop⟩
         ·trivial
        ·rename_i k4
         cases numberL (cutR s).data.toList with
         |none=>trivial
         |some nm=>
          dsimp only
          by_cases k3:k=3
          ·rw[if_pos k3]
           exact⟨⟨by rw[hk,k3],by omega⟩,hop,fun x e=>(by cases e),fun j e=>(by cases e)⟩
          ·rw[if_neg k3]
           refine⟨⟨by rw[hk];exact k1,by rw[hk];exact k2,by rw[hk];exact k3⟩,hop,fun x e=>(by cases e),fun j e=> ?_⟩
           cases e
           exact⟨by rw[hk];exact k4,by omega,fun e=>absurd (hk▸e) hk0⟩
     ·rename_i h5
      have hk0:(ofL op).1.operand=0:=by
       have:cutM s=false:=by simpa using h5
       rw[this]at h4
       simpa using h4.symm
      refine⟨⟨by rw[hk0];decide,by rw[hk0];decide,by rw[hk0];decide⟩,hop,fun x e=>(by cases e),fun j e=> ?_⟩
      cases e
      exact⟨by rw[hk0];decide,Int.le_refl _,fun _=>rfl⟩
def stepM (n:Int)(m:LM)(st:RSt):Option RSt:=
 match m with
 | .lab l=>if(MapTy.get st.labels l).isSome=true then none else some {st with labels:=upd st.labels l st.code.length}
 | .ins op a=>some (putI (op,a) st)
 | .jmp op l=>some (putJ op n l st)
 | .bad _=>none
def runM:List LM→Nat→RSt→Option RSt
 |[],_,st=>some st
 |m::r,n,st=>match stepM ((n:Int)+1) m st with
  |some st'=>runM r (n+1) st'
  |none=>none
theorem linesR_run:∀(ls:List ByteArray) (n:Nat) (st st':RSt),runM (ls.map lineM) n st=some st'→linesR ls n st=((0,0),st')
 |[],_,st,st',h=>by cases h;rfl
 |l::r,n,st,st',h=>by
  rw[List.map_cons,runM]at h
  have hL:=lineL_M ((n:Int)+1) l st
  rw[linesR]
  cases hm:lineM l with
  |lab x=>
   rw[hm]at h hL
   dsimp only[stepM]at h hL
   by_cases hx:(MapTy.get st.labels x).isSome=true
   ·rw[if_pos hx]at h;cases h
   ·rw[if_neg hx]at h hL
    rw[hL]
    exact linesR_run r (n+1) _ st' h
  |ins op a=>
   rw[hm]at h hL
   dsimp only[stepM]at h hL
   rw[hL]
   exact linesR_run r (n+1) _ st' h
  |jmp op x=>
   rw[hm]at h hL
   dsimp only[stepM]at h hL
   rw[hL]
   exact linesR_run r (n+1) _ st' h
  |bad e=>rw[hm]at h;cases h
def genC (L:ByteArray→Int):List LM→List Val→List ByteArray→List In
 |[],_,_=>[]
 | .lab _::r,c,n=>genC L r c n
 | .bad _::r,c,n=>genC L r c n
 | .jmp op l::r,c,n=>⟨op,L l⟩::genC L r c n
 | .ins op (.val x)::r,c,n=>⟨op,((addV x c).1:Nat)⟩::genC L r (addV x c).2 n
 | .ins op (.name x)::r,c,n=>⟨op,((addN x n).1:Nat)⟩::genC L r c (addN x n).2
 | .ins op (.place x)::r,c,n=>⟨op,x⟩::genC L r c n
 | .ins op (.int x)::r,c,n=>⟨op,x⟩::genC L r c n
def resM (L:ByteArray→Int):List LM→List (Int×Arg)
 |[]=>[]
 | .lab _::r=>resM L r
 | .bad _::r=>resM L r
 | .jmp op l::r=>(op,.int (L l))::resM L r
 | .ins op a::r=>(op,a)::resM L r
theorem res_gen (L L':ByteArray→Int):∀(ms:List LM) (st st':RSt),st.consts=st'.consts→st.names=st'.names→st.places=st'.places→
  (putsI (resM L ms) st).code=st.code++genC L ms st.consts st.names∧(putsI (resM L ms) st).consts=(putsI (resM L' ms) st').consts∧(putsI (resM L ms) st).names=(putsI (resM L' ms) st').names∧(putsI (resM L ms) st).places=(putsI (resM L' ms) st').places
 |[],st,st',h1,h2,h3=>⟨by rw[resM,putsI,genC,List.append_nil],h1,h2,h3⟩
 | .lab _::r,st,st',h1,h2,h3=>res_gen L L' r st st' h1 h2 h3
 | .bad _::r,st,st',h1,h2,h3=>res_gen L L' r st st' h1 h2 h3
 | .jmp op l::r,st,st',h1,h2,h3=>by
   have h:=res_gen L L' r (putI (op,.int (L l)) st) (putI (op,.int (L' l)) st') h1 h2 h3
   rw[resM,putsI,resM,putsI,genC]
   refine⟨h.1.trans ?_,h.2⟩
   show(st.code++[_])++genC L r st.consts st.names=_
   rw[List.append_assoc]
   rfl
 | .ins op a::r,st,st',h1,h2,h3=>by
   have h:=res_gen L L' r (putI (op,a) st) (putI (op,a) st') (by
    cases a with
    |val x=>show(addV x st.consts).2=(addV x st'.consts).2;rw[h1]
    |_=>exact h1) (by
    cases a with
    |name x=>show(addN x st.names).2=(addN x st'.names).2;rw[h2]
    |_=>exact h2) (by
    cases a with
    |place x=>show max st.places (x+1)=max st'.places (x+1);rw[h3]
    |_=>exact h3)
   rw[resM,putsI,resM,putsI]
   refine⟨h.1.trans ?_,h.2⟩
   cases a<;>
   ·rw[genC]
    show(st.code++[_])++_=_
    rw[List.append_assoc]
    rfl
def labsM:List LM→Nat→List (ByteArray×Nat)
 |[],_=>[]
 | .lab l::r,k=>(l,k)::labsM r k
 | .bad _::r,k=>labsM r k
 | .jmp _ _::r,k=>labsM r (k+1)
 | .ins _ _::r,k=>labsM r (k+1)
def jmpsM:List LM→Nat→Nat→List Jp
 |[],_,_=>[]
 | .lab _::r,k,n=>jmpsM r k (n+1)
 | .bad _::r,k,n=>jmpsM r k (n+1)
 | .jmp _ l::r,k,n=>⟨(k:Int),(n:Int)+1,l⟩::jmpsM r (k+1) (n+1)
 | .ins _ _::r,k,n=>jmpsM r (k+1) (n+1)
def findB (l:ByteArray):List (ByteArray×Nat)→Option Nat
 |[]=>none
 |(x,k)::r=>if x=l then some k else findB l r
theorem putI_frame (m:Int×Arg)(st:RSt):(putI m st).labels=st.labels∧(putI m st).jumps=st.jumps∧(putI m st).code.length=st.code.length+1:=by
 obtain⟨op,a⟩:=m
 cases a<;>exact⟨rfl,rfl,List.length_append⟩
theorem run_state:∀(ms:List LM) (n:Nat) (st st':RSt),runM ms n st=some st'→
  (st'.code=st.code++genC (fun _=>0) ms st.consts st.names∧st'.consts=(putsI (resM (fun _=>0) ms) st).consts∧st'.names=(putsI (resM (fun _=>0) ms) st).names∧st'.places=(putsI (resM (fun _=>0) ms) st).places)∧
  st'.jumps=st.jumps++jmpsM ms st.code.length n∧
  ∀l,MapTy.get st'.labels l=match findB l (labsM ms st.code.length)with
   |some k=>some (k:Int)
   |none=>MapTy.get st.labels l
 |[],n,st,st',h=>by
  cases h
  exact⟨⟨by rw[genC,List.append_nil],rfl,rfl,rfl⟩,by rw[jmpsM,List.append_nil],fun l=>rfl⟩
 | .bad e::r,n,st,st',h=>by rw[runM]at h;cases h
 | .lab x::r,n,st,st',h=>by
   rw[runM]at h
   dsimp only[stepM]at h
   by_cases hx:(MapTy.get st.labels x).isSome=true
   ·rw[if_pos hx]at h;cases h
   ·rw[if_neg hx]at h
    obtain⟨h1,h2,h3⟩:=run_state r (n+1) {st with labels:=upd st.labels x st.code.length} st' h
    have hp:∀(l:List (Int×Arg)) (s:RSt) (m:List (ByteArray×Int)),(putsI l {s with labels:=m}).consts=(putsI l s).consts∧(putsI l {s with labels:=m}).names=(putsI l s).names∧(putsI l {s with labels:=m}).places=(putsI l s).places:=by
     intro l
     induction l with
     |nil=>exact fun s m=>⟨rfl,rfl,rfl⟩
     |cons y t ih=>
      intro s m
      have e:putI y {s with labels:=m}={putI y s with labels:=m}:=by obtain⟨o,a⟩:=y;cases a<;>rfl
      rw[putsI,e]
      exact ih (putI y s) m
    refine⟨⟨h1.1,h1.2.1.trans (hp _ _ _).1,h1.2.2.1.trans (hp _ _ _).2.1,h1.2.2.2.trans (hp _ _ _).2.2⟩,h2,fun l=> ?_⟩
    rw[h3 l,labsM,findB]
    by_cases hl:x=l
    ·rw[if_pos hl]
     subst hl
     have hf:findB x (labsM r st.code.length)=none:=by
      cases hf:findB x (labsM r st.code.length)with
      |none=>rfl
      |some k=>
       exfalso
       have key:∀(ms:List LM) (n k:Nat) (s s':RSt),runM ms n s=some s'→(MapTy.get s.labels x).isSome=true→findB x (labsM ms k)=none:=by
        intro ms
        induction ms with
        |nil=>intros;rfl
        |cons m t ih=>
         intro n k s s' hr hs
         rw[runM]at hr
         cases m with
         |bad e=>cases hr
         |lab y=>
          dsimp only[stepM]at hr
          by_cases hy:(MapTy.get s.labels y).isSome=true
          ·rw[if_pos hy]at hr;cases hr
          ·rw[if_neg hy]at hr
           rw[labsM,findB,if_neg (fun(e:y=x)=>hy (by rw[e];exact hs))]
           refine ih (n+1) k _ s' hr ?_
           show(MapTy.get (upd s.labels y s.code.length) x).isSome=true
           rw[get_upd]
           split
           ·rfl
           ·exact hs
         |jmp op y=>exact ih (n+1) (k+1) _ s' hr hs
         |ins op a=>
          refine ih (n+1) (k+1) _ s' hr ?_
          rw[(putI_frame (op,a) s).1]
          exact hs
       have:=key r (n+1) st.code.length _ st' h (by show(MapTy.get (upd st.labels x st.code.length) x).isSome=true;rw[get_upd,if_pos rfl];rfl)
       rw[this]at hf
       cases hf
     show(match findB x (labsM r st.code.length)with|some k=>some (k:Int)|none=>MapTy.get (upd st.labels x st.code.length) x)=_
     rw[hf]
     show MapTy.get (upd st.labels x st.code.length) x=some ((st.code.length:Nat):Int)
     rw[get_upd,if_pos rfl]
    ·rw[if_neg hl]
     show(match findB l (labsM r st.code.length)with|some k=>some (k:Int)|none=>MapTy.get (upd st.labels x st.code.length) l)=_
     cases findB l (labsM r st.code.length)with
     |some k=>rfl
     |none=>
      show MapTy.get (upd st.labels x st.code.length) l=MapTy.get st.labels l
      rw[get_upd,if_neg (fun e=>hl e.symm)]
 | .jmp op x::r,n,st,st',h=>by
   rw[runM]at h
   dsimp only[stepM]at h
   obtain⟨h1,h2,h3⟩:=run_state r (n+1) (putJ op ((n:Int)+1) x st) st' h
   have hl:(putJ op ((n:Int)+1) x st).code.length=st.code.length+1:=List.length_append
   rw[hl]at h2 h3
   have hp:∀(l:List (Int×Arg)) (s s':RSt),s.consts=s'.consts→s.names=s'.names→s.places=s'.places→(putsI l s).consts=(putsI l s').consts∧(putsI l s).names=(putsI l s').names∧(putsI l s).places=(putsI l s').places:=by
    intro l
    induction l with
    |nil=>exact fun s s' a b c=>⟨a,b,c⟩
    |cons y t ih=>
     intro s s' a b c
     rw[putsI,putsI]
     obtain⟨o,g⟩:=y
     cases g with
     |val v=>exact ih _ _ (by show(addV v s.consts).2=(addV v s'.consts).2;rw[a]) b c
     |name v=>exact ih _ _ a (by show(addN v s.names).2=(addN v s'.names).2;rw[b]) c
     |place v=>exact ih _ _ a b (by show max s.places (v+1)=max s'.places (v+1);rw[c])
     |int v=>exact ih _ _ a b c
   have hq:=hp (resM (fun _=>0) r) (putJ op ((n:Int)+1) x st) (putI (op,.int 0) st) rfl rfl rfl
   refine⟨⟨?_,h1.2.1.trans hq.1,h1.2.2.1.trans hq.2.1,h1.2.2.2.trans hq.2.2⟩,?_,fun l=> ?_⟩
   ·rw[h1.1,genC]
    show(st.code++[_])++_=_
    rw[List.append_assoc]
    rfl
   ·rw[h2,jmpsM]
    show(st.jumps++[_])++_=_
    rw[List.append_assoc]
    rfl
   ·rw[h3 l,labsM]
    rfl
 | .ins op a::r,n,st,st',h=>by
   rw[runM]at h
   dsimp only[stepM]at h
   obtain⟨h1,h2,h3⟩:=run_state r (n+1) (putI (op,a) st) st' h
   obtain⟨f1,f2,f3⟩:=putI_frame (op,a) st
   rw[f3]at h2 h3
   rw[f2]at h2
   refine⟨⟨?_,h1.2.1,h1.2.2.1,h1.2.2.2⟩,?_,fun l=> ?_⟩
   ·rw[h1.1]
    cases a<;>
    ·rw[genC]
     show(st.code++[_])++_=_
     rw[List.append_assoc]
     rfl
   ·rw[h2,jmpsM]
   ·rw[h3 l,labsM,f1]
theorem setA_here (pre:List In)(x:In)(r:List In)(tg:Int):setA (pre++x::r) pre.length tg=pre++{x with a:=tg}::r:=by
 rw[setA_set (x:=x) (by rw[List.getElem?_append_right (Nat.le_refl _)];simp)]
 rw[List.set_append_right _ _ (Nat.le_refl _)]
 simp
theorem jumps_ok {labels:List (ByteArray×Int)}{L:ByteArray→Int}{len:Nat}:∀(ms:List LM) (n:Nat) (pre:List In) (c:List Val) (nm:List ByteArray),(∀op l,LM.jmp op l∈ms→MapTy.get labels l=some (L l)∧L l≠len)→(pre++genC (fun _=>0) ms c nm).length=len→
  jumpsR labels (jmpsM ms pre.length n) (pre++genC (fun _=>0) ms c nm)=((0,0),pre++genC L ms c nm)
 |[],n,pre,c,nm,_,_=>rfl
 | .lab _::r,n,pre,c,nm,h,hl=>jumps_ok r (n+1) pre c nm (fun op l hm=>h op l (List.mem_cons_of_mem _ hm)) hl
 | .bad _::r,n,pre,c,nm,h,hl=>jumps_ok r (n+1) pre c nm (fun op l hm=>h op l (List.mem_cons_of_mem _ hm)) hl
 | .jmp op l::r,n,pre,c,nm,h,hl=>by
   obtain⟨h1,h2⟩:=h op l List.mem_cons_self
   rw[genC]at hl⊢
   rw[jmpsM,jumpsR]
   dsimp only
   rw[h1]
   dsimp only
   have e:(L l==(((pre++⟨op,0⟩::genC (fun _=>0) r c nm).length:Nat):Int))=false:=by rw[beq_eq_false_iff_ne,hl];exact h2
   rw[e,cond_false]
   have ih:=jumps_ok r (n+1) (pre++[⟨op,L l⟩]) c nm (fun op l hm=>h op l (List.mem_cons_of_mem _ hm)) (by
    rw[←hl]
    simp only[List.length_append,List.length_cons,List.length_nil]
    omega)
   rw[show(pre++[(⟨op,L l⟩:In)]).length=pre.length+1 from List.length_append,List.append_assoc,List.append_assoc]at ih
   rw[show((pre.length:Int)).toNat=pre.length from rfl,setA_here]
   rw[genC]
   exact ih
 | .ins op a::r,n,pre,c,nm,h,hl=>by
   have key:∀(i:In) (c':List Val) (nm':List ByteArray),genC (fun _=>0) (.ins op a::r) c nm=i::genC (fun _=>0) r c' nm'→genC L (.ins op a::r) c nm=i::genC L r c' nm'→jumpsR labels (jmpsM (.ins op a::r) pre.length n) (pre++genC (fun _=>0) (.ins op a::r) c nm)=((0,0),pre++genC L (.ins op a::r) c nm):=by
    intro i c' nm' e1 e2
    rw[e1]at hl⊢
    rw[e2,jmpsM]
    have ih:=jumps_ok r (n+1) (pre++[i]) c' nm' (fun op l hm=>h op l (List.mem_cons_of_mem _ hm)) (by
     rw[←hl]
     simp only[List.length_append,List.length_cons,List.length_nil]
     omega)
    rw[show(pre++[i]).length=pre.length+1 from List.length_append,List.append_assoc,List.append_assoc]at ih
    exact ih
   cases a with
   |val x=>exact key _ _ _ (by rw[genC]) (by rw[genC])
   |name x=>exact key _ _ _ (by rw[genC]) (by rw[genC])
   |place x=>exact key _ _ _ (by rw[genC]) (by rw[genC])
   |int x=>exact key _ _ _ (by rw[genC]) (by rw[genC])
theorem asmT_ok {ls:List ByteArray}{st:RSt}{L:ByteArray→Int}(h:runM (ls.map lineM) 0 st0=some st)(hL:∀op l,LM.jmp op l∈ls.map lineM→findB l (labsM (ls.map lineM) 0)=some (L l).toNat∧0≤L l∧L l≠(resM L (ls.map lineM)).length):
  asmT ls=bif imgL (imgOf (putsI (resM L (ls.map lineM)) st0))!=0 then(noImg,0,imgL (imgOf (putsI (resM L (ls.map lineM)) st0)))else(imgOf (putsI (resM L (ls.map lineM)) st0),0,0):=by
 obtain⟨⟨h1,h2,h3,h4⟩,h5,h6⟩:=run_state _ _ _ _ h
 obtain⟨g1,g2,g3,g4⟩:=res_gen L (fun _=>0) (ls.map lineM) st0 st0 rfl rfl rfl
 have hlen:(resM L (ls.map lineM)).length=(genC L (ls.map lineM) [] []).length:=by
  rw[←(means_all (resM L (ls.map lineM))).1,g1]
  rfl
 have glen:∀(L1 L2:ByteArray→Int) (ms:List LM) (c:List Val) (n:List ByteArray),(genC L1 ms c n).length=(genC L2 ms c n).length:=by
  intro L1 L2 ms
  induction ms with
  |nil=>intros;rfl
  |cons m t ih=>
   intro c n
   cases m with
   |lab _=>exact ih c n
   |bad _=>exact ih c n
   |jmp op l=>rw[genC,genC,List.length_cons,List.length_cons,ih]
   |ins op a=>cases a<;>rw[genC,genC,List.length_cons,List.length_cons,ih]
 have hj:=jumps_ok (labels:=st.labels) (L:=L) (ls.map lineM) 0 [] [] [] (len:=(resM L (ls.map lineM)).length) (fun op l hm=>by
  obtain⟨a1,a2,a3⟩:=hL op l hm
  refine⟨?_,a3⟩
  rw[h6 l]
  show(match findB l (labsM (ls.map lineM) 0)with|some k=>some (k:Int)|none=>_)=_
  rw[a1]
  show some (((L l).toNat:Nat):Int)=some (L l)
  congr 1
  omega) (by rw[List.nil_append,hlen];exact glen _ _ _ _ _)
 have hjj:jumpsR st.labels st.jumps st.code=((0,0),genC L (ls.map lineM) [] []):=by
  rw[h5,h1]
  exact hj
 unfold asmT
 rw[linesR_run ls 0 st0 st h]
 dsimp only
 rw[hjj]
 simp only[bne_self_eq_false,cond_false]
 have e:(⟨genC L (ls.map lineM) [] [],st.consts,st.names,st.places⟩:Img)=imgOf (putsI (resM L (ls.map lineM)) st0):=by
  unfold imgOf
  rw[g1,g2,g3,g4,h2,h3,h4]
  rfl
 rw[e]
theorem opfind_fin:∀k:Fin 33,findL (ofL (k.1:Int)).1.name=some k.1∧(32:UInt8)∉ (ofL (k.1:Int)).1.name.data.toList∧(10:UInt8)∉ (ofL (k.1:Int)).1.name.data.toList:=by decide+kernel
theorem opfind {op:Int}(h:(ofL op).2=true):findL (ofL op).1.name=some op.toNat∧(32:UInt8)∉ (ofL op).1.name.data.toList∧(10:UInt8)∉ (ofL op).1.name.data.toList:=by
 have:=ok_range.1 h
 obtain⟨k,rfl⟩:∃k:Nat,op=k:=⟨op.toNat,by omega⟩
 exact opfind_fin ⟨k,by omega⟩
theorem index_miss32:∀{l:List UInt8},(32:UInt8)∉l→Lib.index l [32]= -1
 |[],_=>rfl
 |b::l,h=>by
  have hp:([32]:List UInt8).isPrefixOf (b::l)=false:=by
   show((32==b)&&([]:List UInt8).isPrefixOf l)=false
   rw[show((32:UInt8)==b)=false from beq_eq_false_iff_ne.2 (fun e=>h (e▸List.mem_cons_self))]
   rfl
  rw[Lib.index,hp,index_miss32 (fun e=>h (List.mem_cons_of_mem _ e))]
  rfl
theorem index_at32:∀{l rest:List UInt8},(32:UInt8)∉l→Lib.index (l++32::rest) [32]=l.length
 |[],rest,_=>by
  rw[List.nil_append,Lib.index]
  rfl
 |b::l,rest,h=>by
  have hp:([32]:List UInt8).isPrefixOf (b::(l++32::rest))=false:=by
   show((32==b)&&([]:List UInt8).isPrefixOf _)=false
   rw[show((32:UInt8)==b)=false from beq_eq_false_iff_ne.2 (fun e=>h (e▸List.mem_cons_self))]
   rfl
  rw[List.cons_append,Lib.index,hp,index_at32 (fun e=>h (List.mem_cons_of_mem _ e))]
  have:((l.length:Int)== -1)=false:=by rw[beq_eq_false_iff_ne];omega
  rw[this]
  show(l.length:Int)+1=((l.length+1:Nat):Int)
  omega
theorem cut_none {l:List UInt8}(h:(32:UInt8)∉l):Lib.cut l [32]=(l,[],false):=by
 unfold Lib.cut
 rw[index_miss32 h]
 rfl
theorem cut_some {l r:List UInt8}(h:(32:UInt8)∉l):Lib.cut (l++32::r) [32]=(l,r,true):=by
 unfold Lib.cut
 rw[index_at32 h]
 split
 ·congr 1
  ·simp
  ·congr 1
   simp
 ·rename_i hh
  exact absurd hh (by simp)
theorem mkL_list (x:List UInt8):(mkL x).data.toList=x:=by unfold mkL;simp
theorem mkL_of (s:ByteArray):mkL s.data.toList=s:=by
 apply ByteArray.ext
 unfold mkL
 simp
structure LabOk (code:List In)(L:List (Int×ByteArray)):Prop where
 has:∀c∈code,(ofL c.op).1.operand=4→0≤c.a→c.a<code.length→∃s,MapTy.get L c.a=some s
 name:∀(i:Nat) s,i<code.length→MapTy.get L (i:Int)=some s→∃n,n≤1000∧s=labName n
 inj:∀(i j:Nat) s,i<code.length→j<code.length→MapTy.get L (i:Int)=some s→MapTy.get L (j:Int)=some s→i=j
def headB (L:List (Int×ByteArray))(i:Nat):List (List UInt8):=match MapTy.get L (i:Int)with
 |some s=>[s.data.toList++[58]]
 |none=>[]
def insL (p:Img)(L:List (Int×ByteArray))(c:In):List UInt8:=[32,32]++((ofL c.op).1.name.data.toList++argP p L (ofL c.op).1.operand c.a.toNat)
def headM (L:List (Int×ByteArray))(i:Nat):List LM:=match MapTy.get L (i:Int)with
 |some s=>[.lab s]
 |none=>[]
def insM (p:Img)(L:List (Int×ByteArray))(c:In):LM:=if(ofL c.op).1.operand=4 then .jmp c.op ((MapTy.get L c.a).getD ⟨#[]⟩)else .ins c.op (argOf p c)
end Go.Proofs.YtakljipkaoahnaaGreatDoor
namespace Go.Proofs.YtakljipkaoahnaaGreatDoor
open Go.RowKit Go.Own Go.Own.MapTy Go.Va Go.Sort
open Go.Own.Cells (sz enc)
def okC (c:UInt8):Bool:=decide ((97≤c.toNat∧c.toNat≤122)∨(48≤c.toNat∧c.toNat≤57))
theorem okC_lab {k:Nat}{c:UInt8}(h:k=0→97≤c.toNat∧c.toNat≤122):labC k c=okC c:=by
 unfold labC okC
 rw[decide_eq_decide]
 refine⟨fun h1=>h1.imp id fun h2=>⟨h2.2.1,h2.2.2⟩,fun h1=> ?_⟩
 by_cases hk:k=0
 ·exact .inl (h hk)
 ·exact h1.imp id fun h2=>⟨by omega,h2.1,h2.2⟩
theorem word_any (s:ByteArray)(w:World)(hs:s.size≤4294967280):Calls Tryz.prog 38 #[.string s] w fun e w'=>e= .returned (.bool (labL s.data.toList))∧w'=w:=by
 have hl:s.data.toList.length=s.size:=Array.length_toList
 by_cases c0:s.size<1
 ·have HR:=zhd (show labL s.data.toList=false by
   unfold labL
   rw[decide_eq_false (show¬1≤s.data.toList.length by omega)]
   simp)
  have e0:(s.size:Int)<1:=by omega
  have d0:decide ((s.size:Int)<1)=true:=decide_eq_true e0
  clear c0 hl
  go_enter Tryz.func38,Tryz.ntmps38
  go_wp2_with fail
  go_ret
  exact⟨by rw[HR.out];rfl,rfl⟩
 ·have e0:¬(s.size:Int)<1:=by omega
  have d0:decide ((s.size:Int)<1)=false:=decide_eq_false e0
  by_cases c1:16<s.size
  ·have HR:=zhd (show labL s.data.toList=false by
    unfold labL
    rw[decide_eq_false (show¬s.data.toList.length≤16 by omega)]
    simp)
   have e1:(16:Int)<s.size:=by omega
   have d1:decide ((16:Int)<s.size)=true:=decide_eq_true e1
   clear c0 c1 hl
   go_enter Tryz.func38,Tryz.ntmps38
   go_wp2_with fail
   go_ret
   exact⟨by rw[HR.out];rfl,rfl⟩
  ·have e1:¬(16:Int)<s.size:=by omega
   have d1:decide ((16:Int)<s.size)=false:=decide_eq_false e1
   have hp:0<s.size:=by omega
   have hlab:labL s.data.toList=labFrom 0 s.data.toList:=by
    unfold labL
    rw[decide_eq_true (show 1≤s.data.toList.length by omega),decide_eq_true (show s.data.toList.length≤16 by omega)]
    simp
   have hd0:=labFrom_drop (s:=s) (k:=0) hp
   rw[List.drop_zero]at hd0
   have hp':(0:Int)<s.size:=by omega
   by_cases c2:97≤s[0].toNat∧s[0].toNat≤122
   ·have e2:¬((s[0].toNat:Nat):Int)<97:=by omega
    have e3:¬(122:Int)<((s[0].toNat:Nat):Int):=by omega
    have d2:decide (((s[0].toNat:Nat):Int)<97)=false:=decide_eq_false e2
    have d3:decide ((122:Int)<((s[0].toNat:Nat):Int))=false:=decide_eq_false e3
    have HL:=zh3 hlab c2 hs
    clear c0 c1 hl hlab hd0 c2 hs
    go_enter Tryz.func38,Tryz.ntmps38
    go_wp2_with fail
    clear d0 d1 d2 d3 e0 e1 e2 e3
    go_loopg [24] (s.size) (fun gk v24 wr=>∃k:Nat,v24= .int .i64 k∧k≤s.size∧gk=s.size - k∧Hid (labFrom k (s.data.toList.drop k)=labFrom 0 s.data.toList)∧wr=w)
    case atStart=>exact⟨0,rfl,Nat.zero_le _,rfl,zhd rfl,rfl⟩
    case round=>
     obtain⟨k,rfl,hk,hgk,HX,rfl⟩:=hrel
     have HG:=zhd hgk
     clear hgk
     by_cases hkn:k<s.size
     ·have hkn':(k:Int)<s.size:=by omega
      have hs8:=HL.out.2.2
      have hkw:wrap64 ((k:Int)+1)=(k:Int)+1:=by unfold wrap64;omega
      clear hs8
      have hx:=HX.out
      rw[labFrom_drop hkn,okC_lab (k:=k) (c:=s[k]) (fun e=>by subst e;exact HL.out.2.1)]at hx
      have HY:=zhd hx
      clear hx
      by_cases q1:97≤s[k].toNat∧s[k].toNat≤122
      ·have HO:=zhd (show okC s[k]=true from decide_eq_true (.inl q1))
       have f1:(97:Int)≤((s[k].toNat:Nat):Int):=by omega
       have f2:((s[k].toNat:Nat):Int)≤122:=by omega
       have g1:decide ((97:Int)≤((s[k].toNat:Nat):Int))=true:=decide_eq_true f1
       have g2:decide (((s[k].toNat:Nat):Int)≤122)=true:=decide_eq_true f2
       clear q1
       go_wp2_with fail
       go_roundg (s.size - (k+1))
       case measure=>have:=HG.out;omega
       case rel=>exact⟨k+1,by simp[hkw],by omega,rfl,zhd (by rw[←HY.out,HO.out];rfl),rfl⟩
      ·have g0:decide ((97:Int)≤((s[k].toNat:Nat):Int))=false∨(decide ((97:Int)≤((s[k].toNat:Nat):Int))=true∧decide (((s[k].toNat:Nat):Int)≤122)=false):=by
        by_cases h:97≤s[k].toNat
        ·exact .inr ⟨decide_eq_true (by omega),decide_eq_false (by omega)⟩
        ·exact .inl (decide_eq_false (by omega))
       by_cases q2:48≤s[k].toNat∧s[k].toNat≤57
       ·have HO:=zhd (show okC s[k]=true from decide_eq_true (.inr q2))
        have g3:decide ((48:Int)≤((s[k].toNat:Nat):Int))=true:=decide_eq_true (by omega)
        have g4:decide (((s[k].toNat:Nat):Int)≤57)=true:=decide_eq_true (by omega)
        have f3:(48:Int)≤((s[k].toNat:Nat):Int):=of_decide_eq_true g3
        have f4:((s[k].toNat:Nat):Int)≤57:=of_decide_eq_true g4
        clear q1 q2
        rcases g0 with g0|⟨g0,g5⟩
        ·have f1:=of_decide_eq_false g0
         go_wp2_with fail
         go_roundg (s.size - (k+1))
         case measure=>have:=HG.out;omega
         case rel=>exact⟨k+1,by simp,by omega,rfl,zhd (by rw[←HY.out,HO.out];rfl),rfl⟩
        ·have f1:=of_decide_eq_true g0
         have f2:=of_decide_eq_false g5
         go_wp2_with fail
         go_roundg (s.size - (k+1))
         case measure=>have:=HG.out;omega
         case rel=>exact⟨k+1,by simp,by omega,rfl,zhd (by rw[←HY.out,HO.out];rfl),rfl⟩
       ·have HO:=zhd (show okC s[k]=false from decide_eq_false (fun h=>h.elim q1 q2))
        have HR:=zhd (show labL s.data.toList=false by rw[HL.out.1,←HY.out,HO.out];rfl)
        have g3:decide ((48:Int)≤((s[k].toNat:Nat):Int))=false∨(decide ((48:Int)≤((s[k].toNat:Nat):Int))=true∧decide (((s[k].toNat:Nat):Int)≤57)=false):=by
         by_cases h:48≤s[k].toNat
         ·exact .inr ⟨decide_eq_true (by omega),decide_eq_false (by omega)⟩
         ·exact .inl (decide_eq_false (by omega))
        clear q1 q2
        rcases g0 with g0|⟨g0,g5⟩<;>rcases g3 with g3|⟨g3,g6⟩
        ·have f1:=of_decide_eq_false g0
         have f3:=of_decide_eq_false g3
         go_wp2_with fail
         go_ret
         exact⟨by rw[HR.out];rfl,rfl⟩
        ·have f1:=of_decide_eq_false g0
         have f3:=of_decide_eq_true g3
         have f4:=of_decide_eq_false g6
         go_wp2_with fail
         go_ret
         exact⟨by rw[HR.out];rfl,rfl⟩
        ·have f1:=of_decide_eq_true g0
         have f2:=of_decide_eq_false g5
         have f3:=of_decide_eq_false g3
         go_wp2_with fail
         go_ret
         exact⟨by rw[HR.out];rfl,rfl⟩
        ·have f1:=of_decide_eq_true g0
         have f2:=of_decide_eq_false g5
         have f3:=of_decide_eq_true g3
         have f4:=of_decide_eq_false g6
         go_wp2_with fail
         go_ret
         exact⟨by rw[HR.out];rfl,rfl⟩
     ·obtain rfl:k=s.size:=by omega
      have hkk:¬(s.size:Int)<s.size:=by omega
      have hx:=HX.out
      rw[List.drop_eq_nil_of_le (by simp),labFrom]at hx
      have HR:=zhd (HL.out.1.trans hx.symm)
      clear hx
      go_wp2_with fail
      go_ret
      exact⟨by rw[HR.out];rfl,rfl⟩
   ·have HR:=zhd (show labL s.data.toList=false by
     rw[hlab,hd0]
     have:labC 0 s[0]=false:=by unfold labC;exact decide_eq_false (fun h=>h.elim c2 (fun h=>absurd h.1 (Nat.lt_irrefl 0)))
     rw[this]
     rfl)
    have g0:decide (((s[0].toNat:Nat):Int)<97)=true∨(decide (((s[0].toNat:Nat):Int)<97)=false∧decide ((122:Int)<((s[0].toNat:Nat):Int))=true):=by
     by_cases h:s[0].toNat<97
     ·exact .inl (decide_eq_true (by omega))
     ·exact .inr ⟨decide_eq_false (by omega),decide_eq_true (by omega)⟩
    clear c0 c1 hl hlab hd0 c2 hs
    rcases g0 with g0|⟨g0,g5⟩
    ·have f1:=of_decide_eq_true g0
     go_enter Tryz.func38,Tryz.ntmps38
     go_wp2_with fail
     go_ret
     exact⟨by rw[HR.out];rfl,rfl⟩
    ·have f1:=of_decide_eq_false g0
     have f2:=of_decide_eq_true g5
     go_enter Tryz.func38,Tryz.ntmps38
     go_wp2_with fail
     go_ret
     exact⟨by rw[HR.out];rfl,rfl⟩
end Go.Proofs.YtakljipkaoahnaaGreatDoor
