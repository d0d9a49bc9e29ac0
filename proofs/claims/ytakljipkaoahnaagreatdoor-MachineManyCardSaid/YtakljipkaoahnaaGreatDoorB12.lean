/- Parts of the proof: what the functions and the plain laws give that later parts lean on. Conditions: none beyond those that each theorem names. -/
import Derived.Test.YtakljipkaoahnaaGreatDoorB6
set_option maxRecDepth 100000
set_option maxHeartbeats 8000000
namespace Go.Va
open Go.Own Go.RowKit
structure KV where
 vh:Value
 vt:Value
structure KSt where
 heights:List Int
 todo:List Nat
 most:Int
def KO (v:KV)(b j:Nat):Prop:=j=b∨v.vh.ownBlock=some j∨v.vt.ownBlock=some j
structure KS (W:World)(tc ti:TypeId)(b:Nat)(cv:Value)(v:KV)(st:KSt):Prop where
 h:W.heap[b]? =some (.cells #[cv,v.vh,v.vt,.int .i64 st.most] tc (0,0))
 heights:RowAt W ti v.vh st.heights
 todo:RowAt W ti v.vt st.todo
 sh:∀j,v.vh.ownBlock=some j→j≠b
 sd:∀j,v.vt.ownBlock=some j→j≠b∧v.vh.ownBlock≠some j
 lo:∀j,KO v b j→b≤j
def KK (b:Nat)(v:KV)(W:World)(v':KV)(W':World):Prop:=Keeps (KO v b) W W'∧∀j,KO v' b j→KO v b j∨W.heap.size≤j
theorem KK.refl (b:Nat)(v:KV)(W:World):KK b v W v W:=⟨Keeps.refl _ _,fun _ h=>.inl h⟩
theorem KK.trans {b:Nat}{v v' v'':KV}{W W' W'':World}(h:KK b v W v' W')(k:KK b v' W' v'' W''):KK b v W v'' W'':=by
 refine⟨h.1.trans k.1 (fun j hj e=>(h.2 j e).resolve_right (by omega)),fun j hj=> ?_⟩
 rcases k.2 j hj with h1|h1
 ·exact h.2 j h1
 ·exact .inr (Nat.le_trans h.1.size h1)
theorem KK.ext {b:Nat}{v:KV}{W W':World}(K:Below W.heap.size W W'):KK b v W v W':=⟨(zkb (S:=fun _=>False) K).mono (fun _ _ f=>f.elim),fun _ h=>.inl h⟩
section
variable{W W':World} {tc ti:TypeId} {b:Nat} {cv:Value} {v:KV} {st:KSt}
theorem KS.lt (R:KS W tc ti b cv v st){j:Nat}(h:KO v b j):j<W.heap.size:=by
 rcases h with rfl|h|h
 ·exact zlt R.h
 ·exact R.heights.lt h
 ·exact R.todo.lt h
theorem KS.ext (R:KS W tc ti b cv v st)(K:Below W.heap.size W W'):KS W' tc ti b cv v st:=
 have K0:Keeps (fun _=>False) W W':=zkb K
 ⟨(K.block b (zlt R.h)).trans R.h,R.heights.keep K0 (fun _ _ f=>f),R.todo.keep K0 (fun _ _ f=>f),R.sh,R.sd,R.lo⟩
theorem KS.setT (R:KS W tc ti b cv v st){w1:World}{v1:Value}{l1:List Nat}(hr:RowAt w1 ti v1 l1)(K:Keeps (fun j=>v.vt.ownBlock=some j) W w1)(hf:∀g,v1.ownBlock=some g→v.vt.ownBlock=some g∨W.heap.size≤g):
 KS (w1.setCell ⟨b,2,none⟩ v1) tc ti b cv {v with vt:=v1} {st with todo:=l1}∧KK b v W {v with vt:=v1} (w1.setCell ⟨b,2,none⟩ v1):=by
 have hb:w1.heap[b]? =some (.cells #[cv,v.vh,v.vt,.int .i64 st.most] tc (0,0)):=(K.block b (zlt R.h) (fun e=>(R.sd b e).1 rfl)).trans R.h
 have KB:Keeps (fun j=>j=b) w1 (w1.setCell ⟨b,2,none⟩ v1):=Keeps.setCell (S:=fun j=>j=b) (p:=⟨b,2,none⟩) (Keeps.refl _ _) (.inl rfl) _
 have K2:Keeps (fun j=>j=b∨v.vt.ownBlock=some j) W (w1.setCell ⟨b,2,none⟩ v1):=(K.mono (fun _ _ e=>.inr e)).trans KB (fun _ _ e=>.inl e)
 have hlt:∀j,KO v b j→j<W.heap.size:=fun j=>R.lt
 have hbl:=zlt R.h
 have hn:∀j,v1.ownBlock=some j→j≠b∧v.vh.ownBlock≠some j:=fun j hj=>by
  rcases hf j hj with h|h
  ·exact R.sd j h
  ·exact⟨by omega,fun e=>by have:=hlt j (.inr (.inl e));omega⟩
 refine⟨⟨by simp[World.setCell,Array.getElem?_modify,hb],R.heights.keep K2 (fun g hg e=>e.elim (R.sh g hg) (fun e=>(R.sd g e).2 hg)),hr.keep KB (fun g hg=>(hn g hg).1),R.sh,hn,fun j hj=> ?_⟩,K2.mono (fun j _ e=>e.elim .inl (fun e=>.inr (.inr e))),fun j hj=> ?_⟩
 ·rcases hj with e|e|e
  ·exact R.lo j (.inl e)
  ·exact R.lo j (.inr (.inl e))
  ·rcases hf j e with h|h
   ·exact R.lo j (.inr (.inr h))
   ·omega
 ·rcases hj with e|e|e
  ·exact .inl (.inl e)
  ·exact .inl (.inr (.inl e))
  ·exact(hf j e).imp (fun h=>.inr (.inr h)) id
theorem KS.setH (R:KS W tc ti b cv v st){w1:World}{v1:Value}{l1:List Int}(hr:RowAt w1 ti v1 l1)(K:Keeps (fun j=>v.vh.ownBlock=some j) W w1)(hf:∀g,v1.ownBlock=some g→v.vh.ownBlock=some g∨W.heap.size≤g):
 KS (w1.setCell ⟨b,1,none⟩ v1) tc ti b cv {v with vh:=v1} {st with heights:=l1}∧KK b v W {v with vh:=v1} (w1.setCell ⟨b,1,none⟩ v1):=by
 have hb:w1.heap[b]? =some (.cells #[cv,v.vh,v.vt,.int .i64 st.most] tc (0,0)):=(K.block b (zlt R.h) (fun e=>R.sh b e rfl)).trans R.h
 have KB:Keeps (fun j=>j=b) w1 (w1.setCell ⟨b,1,none⟩ v1):=Keeps.setCell (S:=fun j=>j=b) (p:=⟨b,1,none⟩) (Keeps.refl _ _) (.inl rfl) _
 have K2:Keeps (fun j=>j=b∨v.vh.ownBlock=some j) W (w1.setCell ⟨b,1,none⟩ v1):=(K.mono (fun _ _ e=>.inr e)).trans KB (fun _ _ e=>.inl e)
 have hlt:∀j,KO v b j→j<W.heap.size:=fun j=>R.lt
 have hbl:=zlt R.h
 have hn:∀j,v1.ownBlock=some j→j≠b∧v.vt.ownBlock≠some j:=fun j hj=>by
  rcases hf j hj with h|h
  ·exact⟨R.sh j h,fun e=>(R.sd j e).2 h⟩
  ·exact⟨by omega,fun e=>by have:=hlt j (.inr (.inr e));omega⟩
 refine⟨⟨by simp[World.setCell,Array.getElem?_modify,hb],hr.keep KB (fun g hg=>(hn g hg).1),R.todo.keep K2 (fun g hg e=>e.elim (R.sd g hg).1 (fun e=>(R.sd g hg).2 e)),fun j hj=>(hn j hj).1,fun j hj=>⟨(R.sd j hj).1,fun e=>(hn j e).2 hj⟩,fun j hj=> ?_⟩,K2.mono (fun j _ e=>e.elim .inl (fun e=>.inr (.inl e))),fun j hj=> ?_⟩
 ·rcases hj with e|e|e
  ·exact R.lo j (.inl e)
  ·rcases hf j e with h|h
   ·exact R.lo j (.inr (.inl h))
   ·omega
  ·exact R.lo j (.inr (.inr e))
 ·rcases hj with e|e|e
  ·exact .inl (.inl e)
  ·exact(hf j e).imp (fun h=>.inr (.inl h)) id
  ·exact .inl (.inr (.inr e))
theorem KS.setM (R:KS W tc ti b cv v st)(m:Int):KS (W.setCell ⟨b,3,none⟩ (.int .i64 m)) tc ti b cv v {st with most:=m}∧KK b v W v (W.setCell ⟨b,3,none⟩ (.int .i64 m)):=by
 have KB:Keeps (fun j=>j=b) W (W.setCell ⟨b,3,none⟩ (.int .i64 m)):=Keeps.setCell (S:=fun j=>j=b) (p:=⟨b,3,none⟩) (Keeps.refl _ _) (.inl rfl) _
 exact⟨⟨by simp[World.setCell,Array.getElem?_modify,R.h],R.heights.keep KB (fun g hg=>R.sh g hg),R.todo.keep KB (fun g hg=>(R.sd g hg).1),R.sh,R.sd,R.lo⟩,KB.mono (fun j _ e=>.inl e),fun j h=>.inl h⟩
theorem KS.poke (R:KS W tc ti b cv v st){g off n cap:Nat}(hv:v.vh= .slice (some ⟨g,off,none⟩) n cap){k:Nat}{x:Int}(hx:st.heights[k]? =some x)(h:Int):
 KS (W.setCell ⟨g,off+k,none⟩ (.int .i64 h)) tc ti b cv v {st with heights:=st.heights.set k h}∧KK b v W v (W.setCell ⟨g,off+k,none⟩ (.int .i64 h)):=by
 have hg:v.vh.ownBlock=some g:=by rw[hv];rfl
 have KB:Keeps (fun j=>j=g) W (W.setCell ⟨g,off+k,none⟩ (.int .i64 h)):=Keeps.setCell (S:=fun j=>j=g) (p:=⟨g,off+k,none⟩) (Keeps.refl _ _) (.inl rfl) _
 refine⟨⟨(KB.block b (zlt R.h) (fun e=>R.sh g hg e.symm)).trans R.h,?_,R.todo.keep KB (fun j hj e=>(R.sd j hj).2 (by subst e;exact hg)),R.sh,R.sd,R.lo⟩,KB.mono (fun j _ e=>by subst e;exact .inr (.inl hg)),fun j h=>.inl h⟩
 have:=R.heights
 rw[hv]at this⊢
 have h2:=this.setOne hx (y:=h) (j:=0) (u:=.int .i64 h) (by decide) rfl
 rwa[show off+(k*Cells.sz Int+0)=off+k from by simp[Cells.sz]]at h2
end
def comeL (n k:Nat)(h:Int)(st:KSt):Int×KSt:=
 bif decide (n≤k)then(132,st)else
 bif decide (st.heights.getD k 0<0)then(0,{st with heights:=st.heights.set k h,todo:=st.todo++[k]})else
 bif st.heights.getD k 0 !=h then(131,st)else(0,st)
end Go.Va
namespace Go.Proofs.YtakljipkaoahnaaGreatDoor
open Go.RowKit Go.Own Go.Own.MapTy Go.Va Go.Sort
open Go.Own.Cells (sz enc)
abbrev KX (W:World)(b:Nat)(cv:Value)(v:KV)(st:KSt):Prop:=KS W 112 3 b cv v st
def KPost (W:World)(b:Nat)(cv:Value)(v:KV)(r:Int×KSt)(e:Ending)(w':World):Prop:=∃v',e= .returned (.int .i64 r.1)∧Hid (KX w' b cv v' r.2∧KK b v W v' w')
theorem elemN:ElemOf Nat Tryz.prog 49 3 8:=elem_mk Tryz.underlying49 (z:=.int .i64 0) (n:=1) (by kernel_rfl) rfl rfl
theorem elemI8:ElemOf Int Tryz.prog 49 3 8:=elem_mk Tryz.underlying49 (z:=.int .i64 0) (n:=1) (by kernel_rfl) rfl rfl
theorem come_any (b:Nat)(ca:Option Addr)(n cc:Nat)(v:KV)(st:KSt)(k:Nat)(h:Int)(W:World)(R:KX W b (.slice ca n cc) v st)(hn:st.heights.length=n)(ht:st.todo.length≤65536)(r:Int×KSt)(hr:comeL n k h st=r):
 Calls Tryz.prog 97 #[.pointer (some ⟨b,0,none⟩),.int .i64 k,.int .i64 h] W (KPost W b (.slice ca n cc) v r):=by
 obtain⟨vh,vt⟩:=v
 obtain⟨ta,tc,rfl⟩:∃a cap,vt= .slice a st.todo.length cap:=R.todo.slice
 obtain⟨ha,hc,rfl⟩:∃a cap,vh= .slice a st.heights.length cap:=R.heights.slice
 have b0:=zlt R.h
 have qq:∀o,W.cell? ⟨b,o,none⟩=(#[.slice ca n cc,.slice ha st.heights.length hc,.slice ta st.todo.length tc,.int .i64 st.most]:Array Value)[o]? :=fun o=>by rw[zch R.h]
 have q0:=qq 0
 have q1:=qq 1
 have q2:=qq 2
 simp only[List.getElem?_toArray,List.getElem?_cons_zero,List.getElem?_cons_succ]at q0 q1 q2
 clear qq
 have f0:∀o,W.frozen? ⟨b,o,none⟩=false:=fun o=>zfr R.h o
 unfold comeL at hr
 have HR:=zhd R
 clear R
 go_enter Tryz.func97,Tryz.ntmps97
 by_cases hk:n≤k
 ·have e1:(n:Int)≤k:=by omega
  rw[decide_eq_true hk]at hr
  simp only[cond_true]at hr
  subst hr
  clear hk
  go_wp2_with fail
  go_ret
  exact⟨_,rfl,zhd ⟨HR.out,KK.refl _ _ _⟩⟩
 ·have e1:¬(n:Int)≤k:=by omega
  rw[decide_eq_false hk]at hr
  simp only[cond_false]at hr
  obtain⟨x,hx⟩:=elem_at (l:=st.heights) (k:=k) (by omega)
  have hkn:(k:Int)<st.heights.length:=by omega
  rw[List.getD_eq_getElem?_getD,hx,Option.getD_some]at hr
  obtain⟨g,off,rfl,hg⟩:=HR.out.heights.addr hx
  have m0:=row_int HR.out.heights hx
  have hgb:¬g=b:=HR.out.sh g rfl
  have hbg:¬b=g:=fun e=>hgb e.symm
  have fg:∀o,W.frozen? ⟨g,o,none⟩=false:=fun o=>HR.out.heights.frozen o
  have HN:=zh2 hn ht
  clear hn ht hk
  cases h1:decide (x<0)with
  |true=>
   have e2:x<0:=of_decide_eq_true h1
   rw[h1]at hr
   simp only[cond_true]at hr
   subst hr
   have PK:=zhd (HR.out.poke rfl hx h)
   have AN:=zhd (show((W.setCell ⟨g,off+k,none⟩ (.int .i64 h)).alloc (.cells #[.int .i64 k] 3)).heap[W.heap.size]? =some (.cells (Cells.enc k).toArray 3 (0,0))from by
    have:=heap_alloc_new (W.setCell ⟨g,off+k,none⟩ (.int .i64 h)) (.cells #[.int .i64 k] 3)
    rwa[setCell_size]at this)
   go_wp2_with (at_builtin;go_must (refine wp_appW (α:=Nat) elemN rfl (.tmp 35) (.tmp 37) rfl (PK.out.1.todo.alloc _) k rfl rfl AN.out (by have:=HN.out.2;dsimp only;omega) (by have:=HN.out.2;dsimp only;unfold maxLen;omega) ?_);intro a1 q1 w1 hr1 hk1 hf1;have hb1:=(hk1.block b (by simp;omega) (fun e=>(PK.out.1.sd b e).1 rfl)).trans ((Below.heap_alloc _ _ _ (by simp;omega)).trans PK.out.1.h);have c2:w1.cell? ⟨b,2,none⟩=some (.slice ta st.todo.length tc):=by{rw[zch hb1];rfl};have f1:∀o,w1.frozen? ⟨b,o,none⟩=false:=fun o=>zfr hb1 o;have b1:b<w1.heap.size:=zlt hb1;have HF:=zh3 hr1 hk1 hf1;clear hb1 hr1 hk1 hf1)
   have S:=(PK.out.1.ext (zal)).setT HF.out.1 HF.out.2.1 HF.out.2.2
   go_ret
   exact⟨_,rfl,zhd ⟨S.1,PK.out.2.trans ((KK.ext (zal)).trans S.2)⟩⟩
  |false=>
   have e2:¬x<0:=of_decide_eq_false h1
   rw[h1]at hr
   simp only[cond_false]at hr
   cases h2:(x !=h)with
   |true=>
    rw[h2]at hr
    simp only[cond_true]at hr
    subst hr
    go_wp2_with fail
    go_ret
    exact⟨_,rfl,zhd ⟨HR.out,KK.refl _ _ _⟩⟩
   |false=>
    rw[h2]at hr
    simp only[cond_false]at hr
    subst hr
    go_wp2_with fail
    go_ret
    exact⟨_,rfl,zhd ⟨HR.out,KK.refl _ _ _⟩⟩
end Go.Proofs.YtakljipkaoahnaaGreatDoor
namespace Go.Va
open Go.Own Go.RowKit
def comesL (n:Nat)(h:Int):List Nat→KSt→Int×KSt
 |[],st=>(0,st)
 |x::r,st=>bif (comeL n x h st).1 !=0 then comeL n x h st else comesL n h r (comeL n x h st).2
def stepL (n:Nat)(c:In)(k:Nat)(st:KSt):Int×KSt:=
 bif decide (st.heights.getD k 0 - takesL c<0)then(131,st)else
 bif decide (32<st.heights.getD k 0 - takesL c+(ofL c.op).1.o)then(131,st)else
 comesL n (st.heights.getD k 0 - takesL c+(ofL c.op).1.o) (followN c k) {st with most:=max st.most (st.heights.getD k 0 - takesL c+(ofL c.op).1.o)}
theorem comeL_bounds (n k:Nat)(h:Int)(st:KSt):(comeL n k h st).2.heights.length=st.heights.length∧(comeL n k h st).2.todo.length≤st.todo.length+1:=by
 unfold comeL
 cases decide (n≤k)
 ·cases decide (st.heights.getD k 0<0)
  ·cases(st.heights.getD k 0 !=h)<;>simp
  ·simp
 ·simp
def negs:List Int→Nat
 |[]=>0
 |x::r=>(bif decide (x<0)then 1 else 0)+negs r
theorem negs_set:∀(l:List Int) (k:Nat) (x h:Int),l[k]? =some x→x<0→0≤h→negs (l.set k h)+1=negs l
 |[],_,_,_,hx,_,_=>by simp at hx
 |y::r,0,x,h,hx,h1,h2=>by
  simp at hx
  subst hx
  simp only[List.set_cons_zero,negs,decide_eq_true h1,decide_eq_false (show¬h<0 by omega),cond_true,cond_false]
  omega
 |y::r,k+1,x,h,hx,h1,h2=>by
  have:=negs_set r k x h (by simpa using hx) h1 h2
  simp only[List.set_cons_succ,negs]
  omega
theorem negs_replicate:∀n:Nat,negs (List.replicate n (-1))=n
 |0=>rfl
 |n+1=>by
  rw[List.replicate_succ,negs,negs_replicate n]
  simp
  omega
structure Inv (n f:Nat)(st:KSt):Prop where
 len:st.heights.length=n
 all:∀x∈st.heights,-1≤x∧x≤32
 todo:∀k∈st.todo,∃x,st.heights[k]? =some x∧0≤x
 less:negs st.heights+st.todo.length≤f
 m0:0≤st.most
 m1:st.most≤32
theorem comeL_inv {n f k:Nat}{h:Int}{st:KSt}(I:Inv n f st)(h0:0≤h)(h1:h≤32):Inv n f (comeL n k h st).2:=by
 unfold comeL
 by_cases hk:n≤k
 ·rw[decide_eq_true hk];exact I
 ·rw[decide_eq_false hk]
  simp only[cond_false]
  obtain⟨x,hx⟩:∃x,st.heights[k]? =some x:=⟨st.heights[k]'(by have:=I.len;omega),by simp⟩
  rw[List.getD_eq_getElem?_getD,hx,Option.getD_some]
  by_cases hn:x<0
  ·rw[decide_eq_true hn]
   simp only[cond_true]
   refine⟨by simpa using I.len,fun y hy=> ?_,fun j hj=> ?_,?_,I.m0,I.m1⟩
   ·rcases List.mem_or_eq_of_mem_set hy with h|rfl
    ·exact I.all y h
    ·omega
   ·simp only[List.mem_append,List.mem_singleton]at hj
    rcases hj with hj|rfl
    ·obtain⟨y,hy,hy0⟩:=I.todo j hj
     refine⟨y,?_,hy0⟩
     rw[List.getElem?_set_ne]
     ·exact hy
     ·intro e
      subst e
      rw[hx]at hy
      cases hy
      omega
    ·exact⟨h,by rw[List.getElem?_set_self (by have:=I.len;omega)],h0⟩
   ·have:=negs_set st.heights k x h hx hn h0
    have:=I.less
    simp only[List.length_append,List.length_singleton]
    omega
  ·rw[decide_eq_false hn]
   simp only[cond_false]
   cases(x !=h)
   ·exact I
   ·exact I
theorem comesL_inv {n f:Nat}{h:Int}(h0:0≤h)(h1:h≤32):∀(l:List Nat) {st:KSt},Inv n f st→Inv n f (comesL n h l st).2
 |[],_,I=>I
 |x::r,st,I=>by
  have h2:=comeL_inv (k:=x) I h0 h1
  rw[comesL]
  cases((comeL n x h st).1 !=0)
  ·exact comesL_inv h0 h1 r h2
  ·exact h2
theorem stepL_inv {n f k:Nat}{c:In}{st:KSt}(I:Inv n f st)(ho:0≤(ofL c.op).1.o):Inv n f (stepL n c k st).2:=by
 unfold stepL
 generalize hh:st.heights.getD k 0 - takesL c=d
 by_cases h1:d<0
 ·rw[decide_eq_true h1];exact I
 ·rw[decide_eq_false h1]
  simp only[cond_false]
  by_cases h2:32<d+(ofL c.op).1.o
  ·rw[decide_eq_true h2];exact I
  ·rw[decide_eq_false h2]
   simp only[cond_false]
   exact comesL_inv (by omega) (by omega) _ ⟨I.len,I.all,I.todo,I.less,by have:=I.m0;show 0≤max _ _;omega,by have:=I.m1;show max _ _≤(32:Int);omega⟩
def bfsL (code:List In):Nat→KSt→(Int×Int)×KSt
 |0,st=>((-1,0),st)
 |f+1,st=>match st.todo with
  |[]=>((-1,0),st)
  |k::r=>match code[k]? with
   |none=>((-1,0),st)
   |some c=>bif (stepL code.length c k {st with todo:=r}).1 !=0 then(((k:Int),(stepL code.length c k {st with todo:=r}).1),(stepL code.length c k {st with todo:=r}).2)else bfsL code f (stepL code.length c k {st with todo:=r}).2
def walkL (code:List In):(Int×Int)×KSt:=
 let q:=comeL code.length 0 0 ⟨List.replicate code.length (-1),[],0⟩
 bif q.1 !=0 then((0,q.1),q.2)else bfsL code (code.length+1) q.2
structure CodeOk (code:List In):Prop where
 len:code.length≤512
 a0:∀c∈code,0≤c.a
 tk:∀c∈code,0≤takesL c∧takesL c≤512
 o:∀c∈code,0≤(ofL c.op).1.o∧(ofL c.op).1.o≤2
theorem cIn (c:In):(⟨c.op,c.a⟩:In)=c:=rfl
end Go.Va
namespace Go.Proofs.YtakljipkaoahnaaGreatDoor
open Go.RowKit Go.Own Go.Own.MapTy Go.Va Go.Sort
open Go.Own.Cells (sz enc)
theorem KK.row {α:Type}[Cells α]{b:Nat}{v v':KV}{W W':World}{e:TypeId}{x:Value}{l:List α}(K:KK b v W v' W')(h:RowAt W e x l)(hx:∀g,x.ownBlock=some g→¬KO v b g):RowAt W' e x l:=h.keep K.1 hx
theorem row_nat {w:World}{e:TypeId}{xs:List Nat}{g off n cap:Nat}(h:RowAt w e (.slice (some ⟨g,off,none⟩) n cap) xs){i:Nat}{x:Nat}(hx:xs[i]? =some x):w.cell? ⟨g,off+i,none⟩=some (.int .i64 (x:Int)):=by
 have h0:=h.cell hx (j:=0) (by decide)
 rwa[show off+(i*Cells.sz Nat+0)=off+i from by simp[Cells.sz]]at h0
theorem cut_fromO {α:Type}[Cells α]{P:Program}{t e:TypeId}{bytes:Nat}(E:ElemOf α P t e bytes){w:World}{ad:Option Addr}{n cap:Nat}{xs:List α}(h:RowAt w e (.slice ad n cap) xs){k:Nat}(hk:k≤xs.length):
 ∃ad',(∀W:World,(Instr.slice t (.slice ad n cap) (some (.int .i64 k)) none none).run P W= .ok (.slice ad' (n - k) (cap - k)) W)∧RowAt w e (.slice ad' (n - k) (cap - k)) (xs.drop k)∧∀g,(Value.slice ad' (n - k) (cap - k)).ownBlock=some g→(Value.slice ad n cap).ownBlock=some g:=by
 obtain⟨i,z,hi,h1,h2,h3,h4⟩:=E.hi
 cases ad with
 |none=>
  rcases h with⟨h,rfl⟩|⟨g,off,c,cur,h,_⟩
  ·cases h
   simp at hk
   subst hk
   exact⟨none,fun W=>by simp[Instr.slice,run_underlying E.ht,Instr.sliceBounds,Instr.sliceBound,asIntOf,sizeOf,typeInfo,hi,Result.andThen],.inl ⟨rfl,rfl⟩,fun g h=>(by cases h)⟩
  ·cases h
 |some ad=>
  rcases h with⟨h,_⟩|⟨g,off,c,cur,h,hh,hl⟩
  ·cases h
  ·cases h
   obtain⟨off',h5,h6⟩:=run_slice_from E.ht hi h2 (RowAt.slice_mk hh hl) hk
   exact⟨_,h5,h6,fun g h=>h⟩
theorem step_any (b:Nat)(F:Nat→Prop)(hF:∀j,F j→j<b)(ca:Option Addr)(n cc:Nat)(code:List In)(v:KV)(st:KSt)(k:Nat)(c:In)(W:World)(R:KX W b (.slice ca n cc) v st)(HC:RdF F W (.slice ca n cc) code)(hc:code[k]? =some c)
 (hn:st.heights.length=n)(ht:st.todo.length≤65530)(hk:k<65536)(ha:0≤c.a)(h1:0≤takesL c∧takesL c≤512)(h2:0≤(ofL c.op).1.o∧(ofL c.op).1.o≤2)(x:Int)(hx:st.heights[k]? =some x)(hx1: -1≤x∧x≤32)(r:Int×KSt)(hr:stepL n c k st=r):
 Calls Tryz.prog 98 #[.pointer (some ⟨b,0,none⟩),.int .i64 k] W (KPost W b (.slice ca n cc) v r):=by
 unfold stepL at hr
 obtain⟨hnc,hmx,g,off,had,hel⟩:=HC.elems
 obtain⟨hFg,hg,hcs⟩:=hel k c hc
 have had:=had.resolve_right (fun e=>by rw[e]at hc;simp at hc)
 subst had
 have m0:=hcs 0 _ rfl
 have m1:=hcs 1 _ rfl
 rw[show off+(k*sz In+0)=off+k*2 from rfl]at m0
 rw[show off+(k*sz In+1)=off+k*2+1 from rfl]at m1
 have hkl:=(zge hc).1
 have hkn:(k:Int)<n:=by omega
 have FO:=zhd (fun W' (K:Keeps (fun j=>b≤j) W W')=>follow_any (HC.keep K (fun g hg=>by have:=hF g hg;omega)) k c hc ha hk)
 have hfl:(followN c k).length≤2:=by
  unfold followN
  cases(ofL c.op).1.ends
  ·cases(c.op==11)
   ·cases(ofL c.op).1.flow<;>simp
   ·simp
  ·simp
 generalize followN c k=fl at*
 have HW:=zh2 HC hF
 clear hel hcs hc HC ha
 obtain⟨vh,vt⟩:=v
 obtain⟨ta,tc,rfl⟩:∃a cap,vt= .slice a st.todo.length cap:=R.todo.slice
 obtain⟨ha,hc,rfl⟩:∃a cap,vh= .slice a st.heights.length cap:=R.heights.slice
 have b0:=zlt R.h
 have qq:∀o,W.cell? ⟨b,o,none⟩=(#[.slice (some ⟨g,off,none⟩) n cc,.slice ha st.heights.length hc,.slice ta st.todo.length tc,.int .i64 st.most]:Array Value)[o]? :=fun o=>by rw[zch R.h]
 have q0:=qq 0
 have q1:=qq 1
 have q3:=qq 3
 simp only[List.getElem?_toArray,List.getElem?_cons_zero,List.getElem?_cons_succ]at q0 q1 q3
 clear qq
 have f0:∀o,W.frozen? ⟨b,o,none⟩=false:=fun o=>zfr R.h o
 obtain⟨hg',hoff,rfl,hgl⟩:=R.heights.addr hx
 have y0:=row_int R.heights hx
 have hkh:(k:Int)<st.heights.length:=by omega
 rw[List.getD_eq_getElem?_getD,hx,Option.getD_some]at hr
 obtain⟨inf,ok,hof⟩:∃inf ok,ofL c.op=(inf,ok):=⟨_,_,rfl⟩
 have OF:=zhd (of_rule c.op inf ok hof)
 have TK:=zhd (takes_any c.op c.a)
 rw[cIn]at TK
 rw[hof]at hr h2
 obtain⟨tk,htk⟩:∃tk,takesL c=tk:=⟨_,rfl⟩
 rw[htk]at hr h1 TK
 dsimp only at hr h2
 have hw1:IntKind.i64.wrap (x - tk)=x - tk:=IntWalk.i64_in _ (by omega)
 have hw2:IntKind.i64.wrap (x - tk+inf.o)=x - tk+inf.o:=IntWalk.i64_in _ (by omega)
 obtain⟨op,a⟩:=c
 dsimp only at m0 m1 OF TK
 have HR:=zhd R
 have HB:=zh3 hn ht hnc
 clear R hn ht hnc hof htk hx
 go_enter Tryz.func98,Tryz.ntmps98
 go_wp2_with fail
 refine(OF.out _).mono ?_
 rintro e w5 ⟨rfl,hB5⟩
 obtain⟨w6,hw6⟩:∃w6,w6=w5.alloc (.cells #[.string inf.name,.int .i64 inf.operand,.int .i64 inf.i,.int .i64 inf.o,.bool inf.blocks,.bool inf.ends,.bool inf.flow] 148):=⟨_,rfl⟩
 have sz5:W.heap.size+1≤w5.heap.size:=by have:=hB5.size;simpa using this
 have B5:Below W.heap.size W w5:=((Below.refl _ _).alloc (Nat.le_refl _) (.cells #[.int .i64 op,.int .i64 a] 43)).trans (hB5.mono (by simp))
 have B6:Below W.heap.size W w6:=by rw[hw6];exact B5.alloc (by omega) _
 have sz6:w6.heap.size=w5.heap.size+1:=by rw[hw6];simp
 have hb5:¬b=w5.heap.size:=by omega
 have u3:w6.cell? ⟨w5.heap.size,3,none⟩=some (.int .i64 inf.o):=by rw[hw6,zch (heap_alloc_new _ _)];rfl
 have i0:w6.cell? ⟨W.heap.size,0,none⟩=some (.int .i64 op):=by rw[hw6,World.cell?_of_block (w:=w5) (Below.heap_alloc _ _ _ (by show W.heap.size<w5.heap.size;omega)),hB5.cell (p:=⟨W.heap.size,0,none⟩) (by simp),zch (heap_alloc_new _ _)];rfl
 have i1:w6.cell? ⟨W.heap.size,1,none⟩=some (.int .i64 a):=by rw[hw6,World.cell?_of_block (w:=w5) (Below.heap_alloc _ _ _ (by show W.heap.size<w5.heap.size;omega)),hB5.cell (p:=⟨W.heap.size,1,none⟩) (by simp),zch (heap_alloc_new _ _)];rfl
 have R6:=HR.out.ext B6
 have q0:=(B6.cell (p:=⟨b,0,none⟩) b0).trans q0
 have q1:=(B6.cell (p:=⟨b,1,none⟩) b0).trans q1
 have q3:=(B6.cell (p:=⟨b,3,none⟩) b0).trans q3
 have y0:=(B6.cell (p:=⟨hg',hoff+k,none⟩) hgl).trans y0
 have b0:b<w6.heap.size:=by omega
 have hgl:hg'<w6.heap.size:=by omega
 have lW:W.heap.size<w6.heap.size:=by omega
 have l5:w5.heap.size<w6.heap.size:=by omega
 have f0:∀o,w6.frozen? ⟨b,o,none⟩=false:=fun o=>zfr R6.h o
 have H6:=zh2 B6 R6
 go_wp2_with fail
 rw[←hw6]
 clear hw6 B5 B6 R6 hB5 sz5 sz6 OF m0 m1 hg
 refine wp_region_ext (by kernel_rfl) (by kernel_rfl) ?_
 repeat(go_big_quiet_step ((go_at_call 131;exact ext_call (TK.out _))))
 refine wpQuiet_nil ?_
 intro w7 hB7
 have q0:=(hB7.cell (p:=⟨b,0,none⟩) b0).trans q0
 have q3:=(hB7.cell (p:=⟨b,3,none⟩) b0).trans q3
 have u3:=(hB7.cell (p:=⟨w5.heap.size,3,none⟩) l5).trans u3
 have H7:=zh2 (H6.out.1.trans (hB7.mono H6.out.1.size)) (H6.out.2.ext hB7)
 have f0:∀o,w7.frozen? ⟨b,o,none⟩=false:=fun o=>zfr H7.out.2.h o
 have b0:b<w7.heap.size:=zlt H7.out.2.h
 have l5:w5.heap.size<w7.heap.size:=Nat.lt_of_lt_of_le l5 hB7.size
 clear hB7 i0 i1 y0 q1 hgl lW TK
 cases h5:decide (x - tk<0)with
 |true=>
  have e5:x - tk<0:=of_decide_eq_true h5
  rw[h5]at hr
  simp only[cond_true]at hr
  subst hr
  go_wp2_with fail
  go_ret
  exact⟨_,rfl,zhd ⟨H7.out.2,KK.ext H7.out.1⟩⟩
 |false=>
  have e5:¬x - tk<0:=of_decide_eq_false h5
  rw[h5]at hr
  simp only[cond_false]at hr
  cases h6:decide (32<x - tk+inf.o)with
  |true=>
   have e6:32<x - tk+inf.o:=of_decide_eq_true h6
   rw[h6]at hr
   simp only[cond_true]at hr
   subst hr
   go_wp2_with fail
   go_ret
   exact⟨_,rfl,zhd ⟨H7.out.2,KK.ext H7.out.1⟩⟩
  |false=>
   have e6:¬32<x - tk+inf.o:=of_decide_eq_false h6
   rw[h6]at hr
   simp only[cond_false]at hr
   obtain⟨h,hh⟩:∃h,h=x - tk+inf.o:=⟨_,rfl⟩
   have hw3:IntKind.i64.wrap (x - tk+inf.o)=h:=by rw[hh];exact hw2
   rw[←hh]at hr e6
   have PM:=zhd (H7.out.2.setM (max st.most h))
   have K8:=zhd (((KK.ext H7.out.1).trans PM.out.2).1.mono (T:=fun j=>b≤j) (fun j _ e=>HR.out.lo j e))
   have HH:=zhd hr
   clear hr hh h5 h6 hw2
   go_wp2_with fail
   refine(FO.out _ K8.out).mono ?_
   rintro e w9 ⟨fv,rfl,hfr,hff,hB9⟩
   obtain⟨fa,fc,rfl⟩:=hfr.slice
   have R9:=PM.out.1.ext hB9
   have HF:=zh4 hfr hff hB9 R9
   clear hfr hff hB9 R9
   go_wp2_with fail
   go_loopg [59] (fl.length) (fun gk v59 wr=>∃(i:Nat) (st':KSt) (v':KV),v59= .int .i64 i∧i≤fl.length∧gk=fl.length - i∧KX wr b (.slice (some ⟨g,off,none⟩) n cc) v' st'∧comesL n h (fl.drop i) st'=r∧KK b ⟨.slice (some ⟨hg',hoff,none⟩) st.heights.length hc,.slice ta st.todo.length tc⟩ w9 v' wr∧st'.heights.length=n∧st'.todo.length≤st.todo.length+i)
   case atStart=>exact⟨0,_,_,rfl,Nat.zero_le _,rfl,HF.out.2.2.2,HH.out,KK.refl _ _ _,HB.out.1,Nat.le_refl _⟩
   case round=>
    obtain⟨i,st',v',rfl,hi,hgk,hR,hco,hK,hl1,hl2⟩:=hrel
    by_cases hin:i<fl.length
    ·obtain⟨y,hy⟩:=elem_at hin
     have hdr:fl.drop i=y::fl.drop (i+1):=by
      rw[List.drop_eq_getElem_cons (zge hy).1,(zge hy).2]
     rw[hdr,comesL]at hco
     have RF:=KK.row hK HF.out.1 (fun j hj e=>by have:=HF.out.2.1 j hj;have:=PM.out.1.lt e;omega)
     obtain⟨fg,foff,rfl,hfg⟩:=RF.addr hy
     have z0:=row_nat RF hy
     have hin':(i:Int)<fl.length:=by omega
     have CO:=zhd (come_any b _ n cc v' st' y h wr hR hl1 (by have:=HB.out.2.1;omega) _ rfl)
     have hcb:=comeL_bounds n y h st'
     generalize comeL n y h st'=cq at*
     have HX:=zh6 hco hgk hK hcb hl1 hl2
     clear hco hgk hK hcb hdr hy RF hR hl1 hl2
     go_wp2_with fail
     refine CO.out.mono ?_
     rintro e w5' ⟨v5,rfl,H5⟩
     cases hz:(cq.1 !=0)with
     |true=>
      have hr:=HX.out.1
      rw[hz]at hr
      simp only[cond_true]at hr
      subst hr
      go_wp2_with fail
      go_ret
      exact⟨v5,rfl,zhd ⟨H5.out.1,(KK.ext H7.out.1).trans (PM.out.2.trans ((KK.ext HF.out.2.2.1).trans (HX.out.2.2.1.trans H5.out.2)))⟩⟩
     |false=>
      have hr:=HX.out.1
      rw[hz]at hr
      simp only[cond_false]at hr
      have HC2:=zhd hr
      clear hr
      go_wp2_with fail
      go_roundg (fl.length - (i+1))
      case measure=>have:=HX.out.2.1;omega
      case rel=>exact⟨i+1,cq.2,v5,by simp,by omega,rfl,H5.out.1,HC2.out,HX.out.2.2.1.trans H5.out.2,by rw[HX.out.2.2.2.1.1];exact HX.out.2.2.2.2.1,by have:=HX.out.2.2.2.1.2;have:=HX.out.2.2.2.2.2;omega⟩
    ·obtain rfl:i=fl.length:=by omega
     rw[List.drop_eq_nil_of_le (Nat.le_refl _),comesL]at hco
     have HX:=zh2 hR hK
     subst hco
     clear hR hK hgk
     go_wp2_with fail
     go_ret
     exact⟨v',rfl,zhd ⟨HX.out.1,(KK.ext H7.out.1).trans (PM.out.2.trans ((KK.ext HF.out.2.2.1).trans HX.out.2))⟩⟩
def KWPost (W:World)(b:Nat)(cv:Value)(q:(Int×Int)×KSt)(e:Ending)(w':World):Prop:=∃v',e= .returned (.agg #[.int .i64 q.1.1,.int .i64 q.1.2])∧Hid (KX w' b cv v' q.2∧KK b ⟨.slice none 0 0,.slice none 0 0⟩ W v' w')
theorem kwalk_any (b:Nat)(F:Nat→Prop)(hF:∀j,F j→j<b)(ca:Option Addr)(n cc:Nat)(code:List In)(W:World)(R:KX W b (.slice ca n cc) ⟨.slice none 0 0,.slice none 0 0⟩ ⟨[],[],0⟩)(HC:RdF F W (.slice ca n cc) code)(OK:CodeOk code)(q:(Int×Int)×KSt)(hq:walkL code=q):
 Calls Tryz.prog 51 #[.pointer (some ⟨b,0,none⟩)] W (KWPost W b (.slice ca n cc) q):=by
 have hnc:=HC.elems.1
 have b0:=zlt R.h
 have q0:=zca R.h 0 rfl
 have HS:=zh4 HC OK hq hF
 have hn:=OK.len
 rw[←hnc]at hn
 have HR:=zh2 R hnc
 clear R HC OK hq hnc
 go_enter Tryz.func51,Tryz.ntmps51
 go_wp2_with fail
 obtain⟨W1,hW1⟩:∃W1,W1=W.alloc (.cells #[.int .i64 0,.int .i64 0] 53):=⟨_,rfl⟩
 have B1:=zba hW1
 have f1:=zha hW1
 rw[←hW1]
 have H1:=zh3 B1 f1 (HR.out.1.ext B1)
 clear hW1 B1 f1
 go_loopg [11] n (fun gk v11 wr=>∃(i:Nat) (vh:Value),v11= .int .i64 i∧i≤n∧gk=n - i∧KX wr b (.slice ca n cc) ⟨vh,.slice none 0 0⟩ ⟨List.replicate i (-1),[],0⟩∧KK b ⟨.slice none 0 0,.slice none 0 0⟩ W1 ⟨vh,.slice none 0 0⟩ wr)
 case atStart=>exact⟨0,_,rfl,Nat.zero_le _,rfl,H1.out.2.2,KK.refl _ _ _⟩
 case round=>
  obtain⟨i,vh,rfl,hi,hgk,hR,hK⟩:=hrel
  by_cases hin:i<n
  ·have hin':(i:Int)<n:=by omega
   obtain⟨ha,hc,he⟩:=hR.heights.slice
   rw[List.length_replicate]at he
   dsimp only at he
   subst he
   have b1:=zlt hR.h
   have q1:=zca hR.h 1 rfl
   have f0:∀o,wr.frozen? ⟨b,o,none⟩=false:=fun o=>zfr hR.h o
   have HX:=zh3 hgk hR hK
   clear hgk hR hK
   go_wp2_with (at_builtin;go_must (refine wp_appW (α:=Int) elemI8 rfl (.tmp 17) (.tmp 18) rfl (HX.out.2.1.heights.alloc _) (-1) rfl rfl (heap_alloc_new _ _) (by simp;omega) (by simp;unfold maxLen;omega) ?_);intro a1 q1 w1 hr1 hk1 hf1;rw[List.length_replicate]at hr1;simp only[List.length_replicate]at hf1;have hb1:=(hk1.block b (by simp;omega) (fun e=>HX.out.2.1.sh b e rfl)).trans ((Below.heap_alloc _ _ _ b1).trans HX.out.2.1.h);have c2:w1.cell? ⟨b,1,none⟩=some (.slice ha i hc):=by{rw[zch hb1];rfl};have f1:∀o,w1.frozen? ⟨b,o,none⟩=false:=fun o=>zfr hb1 o;have b1:b<w1.heap.size:=zlt hb1;have HF:=zh3 hr1 hk1 hf1;clear hb1 hr1 hk1 hf1)
   have S:=zhd ((HX.out.2.1.ext ((Below.refl _ _).alloc (Nat.le_refl _) (.cells #[.int .i64 (-1)] 3))).setH HF.out.1 HF.out.2.1 HF.out.2.2)
   go_roundg (n - (i+1))
   case measure=>have:=HX.out.1;omega
   case rel=>exact⟨i+1,_,by simp,by omega,rfl,by have:=S.out.1;rwa[show List.replicate i (-1:Int)++[-1]=List.replicate (i+1) (-1)from(List.replicate_succ' ..).symm]at this,HX.out.2.2.trans ((KK.ext (zal)).trans S.out.2)⟩
  ·obtain rfl:i=n:=by omega
   have hnc:=HR.out.2
   subst hnc
   have CO:=zhd (come_any b ca code.length cc ⟨vh,.slice none 0 0⟩ _ 0 0 wr hR (by simp) (by simp) _ rfl)
   have hI:=comeL_inv (n:=code.length) (f:=code.length) (k:=0) (h:=0) (st:=⟨List.replicate code.length (-1),[],0⟩) ⟨by simp,(fun x hx=>by rw[(List.mem_replicate.1 hx).2];omega),(fun k hk=>by cases hk),(by rw[negs_replicate];simp),Int.le_refl 0,(by show(0:Int)≤32;decide)⟩ (by decide) (by decide)
   have hq:=HS.out.2.2.1
   unfold walkL at hq
   dsimp only at hq
   generalize comeL code.length 0 0 ⟨List.replicate code.length (-1),[],0⟩=cq at*
   have HX:=zh3 hK hI hq
   clear hgk hR hK hI hq
   go_wp2_with fail
   refine(show Calls _ _ #[_,.int .i64 0,_] _ _ from CO.out).mono ?_
   rintro e w5 ⟨v5,rfl,H5⟩
   have K5:=HX.out.1.trans H5.out.2
   have lW:=zlt H1.out.2.1
   have ff:=(K5.1.block W.heap.size lW (fun e=>by have:=HR.out.1.lt e;omega)).trans H1.out.2.1
   have z0:=zfr ff 0
   have z1:=zfr ff 1
   have q1:=zca ff 0 rfl
   have q2:=zca ff 1 rfl
   have l5:=zlt ff
   have HK5:=zhd K5
   clear ff K5
   have HE:=zhd (fun(p:(Int×Int)×KSt) (vz:KV) (wz:World) (hz:KX wz b (.slice ca code.length cc) vz p.2) (kz:KK b ⟨.slice none 0 0,.slice none 0 0⟩ W1 vz wz) (x y:Value)=>
    (show KX ((wz.setCell ⟨W.heap.size,0,none⟩ x).setCell ⟨W.heap.size,1,none⟩ y) b (.slice ca code.length cc) vz p.2∧KK b ⟨.slice none 0 0,.slice none 0 0⟩ W vz ((wz.setCell ⟨W.heap.size,0,none⟩ x).setCell ⟨W.heap.size,1,none⟩ y)from by
      have hno:∀j,j=W.heap.size→¬KO vz b j:=fun j hj e=>by
       rcases kz.2 j e with h|h
       ·have:=HR.out.1.lt h
        omega
       ·have:=zlt H1.out.2.1
        omega
      have k1:Keeps (fun j=>j=W.heap.size) wz ((wz.setCell ⟨W.heap.size,0,none⟩ x).setCell ⟨W.heap.size,1,none⟩ y):=Keeps.setCell (S:=fun j=>j=W.heap.size) (p:=⟨W.heap.size,1,none⟩) (Keeps.setCell (S:=fun j=>j=W.heap.size) (p:=⟨W.heap.size,0,none⟩) (Keeps.refl _ _) (.inl rfl) x) (.inl rfl) y
      have hh:=(KK.ext (b:=b) (v:=⟨.slice none 0 0,.slice none 0 0⟩) H1.out.1).trans kz
      refine⟨⟨(k1.block b (zlt hz.h) (fun e=>hno b e (.inl rfl))).trans hz.h,hz.heights.keep k1 (fun g hg e=>hno g e (.inr (.inl hg))),hz.todo.keep k1 (fun g hg e=>hno g e (.inr (.inr hg))),hz.sh,hz.sd,hz.lo⟩,hh.1.trans k1 (fun j hj e=>by omega),hh.2⟩))
   cases hz:(cq.1 !=0)with
   |true=>
    have hr:=HX.out.2.2
    rw[hz]at hr
    simp only[cond_true]at hr
    subst hr
    go_wp2_with fail
    exact bodyPost_ret (v:=.agg #[.int .i64 0,.int .i64 cq.1]) (by simp only[results,Tryz.results51];go_simp) rfl ⟨v5,rfl,zhd (HE.out ((0,cq.1),cq.2) v5 _ H5.out.1 HK5.out _ _)⟩
   |false=>
    have hr:=HX.out.2.2
    rw[hz]at hr
    simp only[cond_false]at hr
    have HR2:=zhd hr
    clear hr
    go_wp2_with fail
    go_loopg [] (code.length+1) (fun gk wr=>∃(st:KSt) (v:KV),KX wr b (.slice ca code.length cc) v st∧KK b ⟨.slice none 0 0,.slice none 0 0⟩ W1 v wr∧Inv code.length gk st∧bfsL code gk st=q∧gk≤code.length+1)
    case atStart=>
     have I:=HX.out.2.1
     exact⟨cq.2,v5,H5.out.1,HK5.out,⟨I.len,I.all,I.todo,by have:=I.less;omega,I.m0,I.m1⟩,HR2.out,Nat.le_refl _⟩
    case round=>
     obtain⟨st,v,hR,hK,hI,hb,hg1⟩:=hrel
     obtain⟨vh,vt⟩:=v
     obtain⟨ta,tc,rfl⟩:∃a cap,vt= .slice a st.todo.length cap:=hR.todo.slice
     have b1:=zlt hR.h
     have q2':wr.cell? ⟨b,2,none⟩=some (.slice ta st.todo.length tc):=by rw[zch hR.h];rfl
     have f0:∀o,wr.frozen? ⟨b,o,none⟩=false:=fun o=>zfr hR.h o
     cases hto:st.todo with
     |nil=>
      have e0:st.todo.length=0:=by rw[hto];rfl
      rw[e0]at q2'
      have hq:((-1,0),st)=q:=by
       cases gk with
       |zero=>exact hb
       |succ f=>rw[bfsL,hto]at hb;exact hb
      subst hq
      have ff:=(hK.1.block W.heap.size lW (fun e=>by have:=HR.out.1.lt e;omega)).trans H1.out.2.1
      have z0':=zfr ff 0
      have z1':=zfr ff 1
      have q3:=zca ff 0 rfl
      have q4:=zca ff 1 rfl
      have l5:=zlt ff
      have HY:=zh2 hR hK
      clear ff hR hK hI hb hto hg1
      go_wp2_with fail
      exact bodyPost_ret (v:=.agg #[.int .i64 (-1),.int .i64 0]) (by simp only[results,Tryz.results51];go_simp) rfl ⟨_,rfl,zhd (HE.out ((-1,0),st) _ _ HY.out.1 HY.out.2 _ _)⟩
     |cons k r=>
      obtain⟨f,rfl⟩:∃f,gk=f+1:=⟨gk - 1,by have:=hI.less;rw[hto]at this;simp at this;omega⟩
      rw[bfsL,hto]at hb
      dsimp only at hb
      have hk0:st.todo[0]? =some k:=by rw[hto];rfl
      obtain⟨x,hx,hx0⟩:=hI.todo k (by rw[hto];exact List.mem_cons_self ..)
      have hkl:k<code.length:=by have:=(zge hx).1;have:=hI.len;omega
      obtain⟨c,hc⟩:=elem_at hkl
      rw[hc]at hb
      dsimp only at hb
      have hcm:=zmg hc
      have RT:RowAt wr 3 (.slice ta st.todo.length tc) st.todo:=hR.todo
      obtain⟨tg,toff,rfl,htg⟩:=RT.addr hk0
      have t0:=row_nat RT hk0
      rw[Nat.add_zero]at t0
      have hlen:st.todo.length=r.length+1:=by rw[hto];rfl
      obtain⟨ad',cR,rT,oT⟩:=cut_fromO elemN RT (k:=1) (by omega)
      rw[show((1:Nat):Int)=1 from rfl]at cR
      rw[show st.todo.drop 1=r from by rw[hto];rfl]at rT
      have hpos:(0:Int)<st.todo.length:=by omega
      have ST:=zhd (hR.setT (w1:=wr) (v1:=.slice ad' (st.todo.length - 1) (tc - 1)) (l1:=r) rT (Keeps.refl _ _) (fun g hg=>.inl (oT g hg)))
      have KS2:=(KK.ext (b:=b) (v:=⟨.slice none 0 0,.slice none 0 0⟩) H1.out.1).trans (hK.trans ST.out.2)
      have I2:Inv code.length f {st with todo:=r}:=⟨hI.len,hI.all,(fun j hj=>hI.todo j (by rw[hto];exact List.mem_cons_of_mem _ hj)),(by have:=hI.less;rw[hlen]at this;show negs st.heights+r.length≤f;omega),hI.m0,hI.m1⟩
      have OKc:=HS.out.2.1
      have hln:=HR.out.2
      have STP:=zhd (step_any b F HS.out.2.2.2 ca code.length cc code _ {st with todo:=r} k c _ ST.out.1 (HS.out.1.keep KS2.1 (fun j hj e=>by have:=HS.out.2.2.2 j hj;have:=HR.out.1.lo j e;omega)) hc hI.len (by have:=I2.less;have:=OKc.len;have:=hI.less;have:=HX.out.2.1.less;show r.length≤65530;omega) (by have:=OKc.len;omega) (OKc.a0 c hcm) (OKc.tk c hcm) (OKc.o c hcm) x hx (hI.all x (zmg hx)) _ rfl)
      have I3:=stepL_inv (k:=k) (c:=c) I2 (OKc.o c hcm).1
      generalize stepL code.length c k {st with todo:=r}=sq at*
      have HY:=zh4 hb I3 (hK.trans ST.out.2) hg1
      clear hb I2 I3 hI hK KS2 rT oT RT OKc hx hx0 hk0 hto hc hcm hln hlen hg1
      go_wp2_with fail
      refine STP.out.mono ?_
      rintro e w7 ⟨v7,rfl,H7⟩
      have K7:=HY.out.2.2.1.trans H7.out.2
      have ff:=(K7.1.block W.heap.size lW (fun e=>by have:=HR.out.1.lt e;omega)).trans H1.out.2.1
      have z0':=zfr ff 0
      have z1':=zfr ff 1
      have q3:=zca ff 0 rfl
      have q4:=zca ff 1 rfl
      have l5:=zlt ff
      have HK7:=zhd K7
      clear ff K7
      cases hz2:(sq.1 !=0)with
      |true=>
       have hr:=HY.out.1
       rw[hz2]at hr
       simp only[cond_true]at hr
       subst hr
       go_wp2_with fail
       exact bodyPost_ret (v:=.agg #[.int .i64 k,.int .i64 sq.1]) (by simp only[results,Tryz.results51];go_simp) rfl ⟨v7,rfl,zhd (HE.out ((k,sq.1),sq.2) v7 _ H7.out.1 HK7.out _ _)⟩
      |false=>
       have hr:=HY.out.1
       rw[hz2]at hr
       simp only[cond_false]at hr
       have HR3:=zhd hr
       clear hr
       go_wp2_with fail
       go_roundg f
       case measure=>omega
       case rel=>exact⟨sq.2,v7,H7.out.1,HK7.out,HY.out.2.1,HR3.out,by have:=HY.out.2.2.2;omega⟩
end Go.Proofs.YtakljipkaoahnaaGreatDoor
namespace Go.Va
open Go.Own Go.RowKit
def restsAt (code:List In)(k:Nat):Bool:=match code[k]? with
 |some c=>restsL c
 |none=>true
def followAt (code:List In)(k:Nat):List Nat:=match code[k]? with
 |some c=>followN c k
 |none=>[]
def roundIn (code:List In)(k0:Nat):List Nat→List Bool→List Nat→Option (List Bool×List Nat)
 |[],seen,todo=>some (seen,todo)
 |x::r,seen,todo=>bif x==k0 then none else bif !(seen.getD x false)&& !(restsAt code x)then roundIn code k0 r (seen.set x true) (todo++[x])else roundIn code k0 r seen todo
def roundF (code:List In)(k0:Nat):Nat→List Bool→List Nat→Bool
 |0,_,_=>false
 |f+1,seen,todo=>match todo with
  |[]=>false
  |k::r=>match roundIn code k0 (followAt code k) seen r with
   |none=>true
   |some q=>roundF code k0 f q.1 q.2
def roundL (code:List In)(k0:Nat):Bool:=bif restsAt code k0 then false else roundF code k0 (code.length+1) (List.replicate code.length false) [k0]
def frees:List Bool→Nat
 |[]=>0
 |x::r=>(bif x then 0 else 1)+frees r
theorem followN_len (c:In)(k:Nat):(followN c k).length≤2:=by
 unfold followN
 cases(ofL c.op).1.ends
 ·cases(c.op==11)
  ·cases(ofL c.op).1.flow<;>simp
  ·simp
 ·simp
theorem frees_set:∀(l:List Bool) (k:Nat),l[k]? =some false→frees (l.set k true)+1=frees l
 |[],_,h=>by simp at h
 |y::r,0,h=>by
  simp at h
  subst h
  simp only[List.set_cons_zero,frees,cond_true,cond_false]
  omega
 |y::r,k+1,h=>by
  have:=frees_set r k (by simpa using h)
  simp only[List.set_cons_succ,frees]
  omega
theorem frees_replicate:∀n:Nat,frees (List.replicate n false)=n
 |0=>rfl
 |n+1=>by
  rw[List.replicate_succ,frees,frees_replicate n]
  simp
  omega
structure RI (n f:Nat)(Rc:Nat→Prop)(seen:List Bool)(todo:List Nat):Prop where
 len:seen.length=n
 td:∀k∈todo,Rc k
 less:frees seen+todo.length≤f
theorem RI.see {n f:Nat}{Rc:Nat→Prop}{seen:List Bool}{todo:List Nat}(I:RI n f Rc seen todo){x:Nat}(hx:seen[x]? =some false)(hr:Rc x):RI n f Rc (seen.set x true) (todo++[x]):=
 ⟨by simpa using I.len,fun k hk=>by
   simp only[List.mem_append,List.mem_singleton]at hk
   rcases hk with hk|rfl
   ·exact I.td k hk
   ·exact hr,by
   have:=frees_set seen x hx
   have:=I.less
   simp only[List.length_append,List.length_singleton]
   omega⟩
end Go.Va
namespace Go.Proofs.YtakljipkaoahnaaGreatDoor
open Go.RowKit Go.Own Go.Own.MapTy Go.Va Go.Sort
open Go.Own.Cells (sz enc)
theorem infoBool:(Tryz.prog.info? 4).map (fun i=>(i.zero,i.size,i.bytes))=some (some (.bool false),1,1):=by kernel_rfl
theorem code_cells {F:Nat→Prop}{W:World}{ca:Option Addr}{n cc:Nat}{code:List In}(HC:RdF F W (.slice ca n cc) code){k:Nat}{c:In}(hc:code[k]? =some c):∃g off,ca=some ⟨g,off,none⟩∧g<W.heap.size∧W.cell? ⟨g,off+k*2,none⟩=some (.int .i64 c.op)∧W.cell? ⟨g,off+k*2+1,none⟩=some (.int .i64 c.a):=by
 obtain⟨rfl,hmx,g,off,had,hel⟩:=HC.elems
 obtain⟨hFg,hg,hcs⟩:=hel k c hc
 have had:=had.resolve_right (fun e=>by rw[e]at hc;simp at hc)
 exact⟨g,off,had,hg,hcs 0 _ rfl,hcs 1 _ rfl⟩
def RoRel (W:World)(sb n:Nat)(Rc:Nat→Prop)(code:List In)(k0:Nat)(r:Bool)(gk:Nat)(v6:Value)(wr:World):Prop:=
 ∃(seen:List Bool) (todo:List Nat),RowAt wr 4 (.slice (some ⟨sb,0,none⟩) n n) seen∧RowAt wr 3 v6 todo∧(∀g,v6.ownBlock=some g→sb<g)∧RI n gk Rc seen todo∧roundF code k0 gk seen todo=r∧Below W.heap.size W wr∧sb<wr.heap.size∧gk≤n+1
def RiRel (W:World)(sb n:Nat)(Rc:Nat→Prop)(code:List In)(k0 f:Nat)(fv:Value)(fl:List Nat)(R:Option (List Bool×List Nat))(gk:Nat)(v41 v6:Value)(wr:World):Prop:=
 ∃(i:Nat) (seen:List Bool) (todo:List Nat),v41= .int .i64 i∧i≤fl.length∧gk=fl.length - i∧RowAt wr 4 (.slice (some ⟨sb,0,none⟩) n n) seen∧RowAt wr 3 v6 todo∧(∀g,v6.ownBlock=some g→sb<g∧fv.ownBlock≠some g)∧RI n f Rc seen todo∧roundIn code k0 (fl.drop i) seen todo=R∧RowAt wr 3 fv fl∧Below W.heap.size W wr
theorem round_any (b:Nat)(F:Nat→Prop)(ca:Option Addr)(n cc:Nat)(code:List In)(W:World)(q0:W.cell? ⟨b,0,none⟩=some (.slice ca n cc))(hbl:b<W.heap.size)(HC:RdF F W (.slice ca n cc) code)(OK:CodeOk code)(Rc:Nat→Prop)(hcl:∀k,Rc k→k<code.length∧∀x∈followAt code k,Rc x)(k0:Nat)(hk0:Rc k0)(r:Bool)(hr:roundL code k0=r):
 Calls Tryz.prog 52 #[.pointer (some ⟨b,0,none⟩),.int .i64 k0] W fun e w'=>e= .returned (.bool r)∧Below W.heap.size W w':=by
 have hnc:=HC.elems.1
 obtain⟨i0,hi,hz,hs,hby⟩:=info_parts infoBool
 have hn512:=OK.len
 rw[←hnc]at hn512
 obtain⟨cs,hmk,hcs⟩:=run_make_bools (P:=Tryz.prog) (t:=74) Tryz.underlying74 hi hz hs hby n (by omega)
 obtain⟨c,hc⟩:=elem_at (hcl k0 hk0).1
 obtain⟨g,off,rfl,hg,m0,m1⟩:=code_cells HC hc
 have hkn:(k0:Int)<n:=by have:=(hcl k0 hk0).1;omega
 have HS:=zh6 HC OK hcl hk0 hcs hnc
 have QQ:=zhd q0
 unfold roundL restsAt at hr
 rw[hc]at hr
 dsimp only at hr
 obtain⟨op,a⟩:=c
 dsimp only at m0 m1
 have RE:=zhd (rests_any op a)
 generalize restsL ⟨op,a⟩=rs at*
 clear HC OK hcl hcs hnc hc hi hz hs hby i0 hk0
 go_enter Tryz.func52,Tryz.ntmps52
 go_wp2_with fail
 refine(RE.out _).mono ?_
 rintro e w1 ⟨rfl,hB1⟩
 clear RE
 cases rs with
 |true=>
  simp only[cond_true]at hr
  subst hr
  go_wp2_with fail
  go_ret
  exact⟨rfl,hB1⟩
 |false=>
  simp only[cond_false]at hr
  have HR:=zh2 hr hB1
  have q0:=(hB1.cell (p:=⟨b,0,none⟩) hbl).trans q0
  have hbl1:b<w1.heap.size:=Nat.lt_of_lt_of_le hbl hB1.size
  clear hr hB1 m0 m1 hkn
  go_wp2_with fail
  obtain⟨W2,hW2⟩:∃W2,W2=(w1.alloc (.cells cs 4)).alloc (.cells #[.int .i64 k0] 3):=⟨_,rfl⟩
  have B2:Below W.heap.size W W2:=by rw[hW2];exact(HR.out.2.alloc HR.out.2.size _).alloc (by have:=HR.out.2.size;simp;omega) _
  have s2:RowAt W2 4 (.slice (some ⟨w1.heap.size,0,none⟩) n n) (List.replicate n false):=by rw[hW2];exact RowAt.frame (w:=w1.alloc (.cells cs 4)) (RowAt.made (heap_alloc_new w1 _) HS.out.2.2.2.2.1 (by simp) (by unfold maxLen;omega)) (fun g h=>by cases h;exact Below.heap_alloc _ _ _ (by simp))
  have t2:RowAt W2 3 (.slice (some ⟨w1.heap.size+1,0,none⟩) 1 1) [k0]:=by rw[hW2];exact RowAt.made heap_new2 rfl rfl (by decide)
  have l2:w1.heap.size<W2.heap.size:=by rw[hW2];simp;omega
  rw[←hW2]
  have H2:=zh4 B2 s2 t2 l2
  clear hW2 B2 s2 t2 l2 q0 hbl1 hmk
  go_loopg [6] (n+1) (fun gk v6 wr=>RoRel W w1.heap.size n Rc code k0 r gk v6 wr)
  case atStart=>
   refine⟨List.replicate n false,[k0],H2.out.2.1,H2.out.2.2.1,(fun g h=>by cases h;exact Nat.lt_succ_self _),⟨by simp,fun k hk=>by rw[List.mem_singleton.1 hk];exact HS.out.2.2.2.1,by rw[frees_replicate];simp⟩,?_,H2.out.1,H2.out.2.2.2,Nat.le_refl _⟩
   have:=HR.out.1
   rwa[←HS.out.2.2.2.2.2]at this
  case round=>
   obtain⟨seen,todo,hS,hT,hTo,hI,hF,hB,hl,hg1⟩:=hrel
   obtain⟨ta,tc,rfl⟩:=hT.slice
   have hcase:todo=[]∨∃k rr,todo=k::rr:=by cases todo<;>simp
   rcases hcase with hto|⟨k,rr,hto⟩
   ·have hr:false=r:=by
     cases gk with
     |zero=>exact hF
     |succ f=>rw[hto,roundF]at hF;exact hF
    subst hr
    subst hto
    have HX:=zhd hB
    clear hS hT hTo hI hF hB hl hg1
    go_wp2_with fail
    go_ret
    exact⟨rfl,HX.out⟩
   ·obtain⟨f,rfl⟩:∃f,gk=f+1:=⟨gk - 1,by have:=hI.less;rw[hto]at this;simp at this;omega⟩
    rw[hto,roundF]at hF
    have hk0:todo[0]? =some k:=by rw[hto];rfl
    have hRk:=hI.td k (by rw[hto];exact List.mem_cons_self ..)
    obtain⟨hkl,hkf⟩:=HS.out.2.2.1 k hRk
    obtain⟨c,hc⟩:=elem_at hkl
    have hcm:=zmg hc
    obtain⟨tg,toff,rfl,htg⟩:=hT.addr hk0
    have t0:=row_nat hT hk0
    rw[Nat.add_zero]at t0
    have hlen:todo.length=rr.length+1:=by rw[hto];rfl
    obtain⟨ad',cR,rT,oT⟩:=cut_fromO elemN hT (k:=1) (by omega)
    rw[show((1:Nat):Int)=1 from rfl]at cR
    rw[show todo.drop 1=rr from by rw[hto];rfl]at rT
    have hpos:(0:Int)<todo.length:=by omega
    have I2:RI n f Rc seen rr:=⟨hI.len,fun j hj=>hI.td j (by rw[hto];exact List.mem_cons_of_mem _ hj),by have:=hI.less;rw[hlen]at this;omega⟩
    have hfa:followAt code k=followN c k:=by unfold followAt;rw[hc]
    rw[hfa]at hF hkf
    have FO:=zhd (follow_any (HS.out.1.keep (S:=fun _=>False) (zkb hB) (fun _ _ f=>f)) k c hc (HS.out.2.1.a0 c hcm) (by have:=HS.out.2.1.len;omega))
    have hfl:=followN_len c k
    generalize followN c k=fl at*
    have q0:=(hB.cell (p:=⟨b,0,none⟩) hbl).trans QQ.out
    have hbr:b<wr.heap.size:=Nat.lt_of_lt_of_le hbl hB.size
    have HX:=zh8 hF hkf I2 hS rT (fun g hg=>hTo g (oT g hg)) hB (zai hl hg1)
    clear hF hkf I2 hS rT hTo oT hB hl hg1 hT hI hto hlen hfa hcm hc hkl hRk hk0
    go_wp2_with fail
    refine FO.out.mono ?_
    rintro e w5 ⟨fv,rfl,hfr,hff,hB5⟩
    obtain⟨fa,fc,rfl⟩:=hfr.slice
    obtain⟨R,hR⟩:∃R,roundIn code k0 fl seen rr=R:=⟨_,rfl⟩
    have BW5:=HX.out.2.2.2.2.2.2.1.trans (hB5.mono HX.out.2.2.2.2.2.2.1.size)
    have HF:=zh5 hfr hff hB5 hR BW5
    clear hfr hff hB5 hR FO BW5
    go_wp2_with fail
    go_loopg [41,6] (fl.length) (fun gk v41 v6 wz=>RiRel W w1.heap.size n Rc code k0 f (.slice fa fl.length fc) fl R gk v41 v6 wz)
    case atStart=>
     exact⟨0,seen,rr,rfl,Nat.zero_le _,rfl,HX.out.2.2.2.1.below HF.out.2.2.1,HX.out.2.2.2.2.1.below HF.out.2.2.1,fun g hg=>⟨HX.out.2.2.2.2.2.1 g hg,fun e=>by have:=HF.out.2.1 g e;have:=HX.out.2.2.2.2.1.lt hg;omega⟩,HX.out.2.2.1,HF.out.2.2.2.1,HF.out.1,HF.out.2.2.2.2⟩
    case round=>
     obtain⟨i,seen',todo',rfl,hi,hgk,hS,hT,hTo,hI,hRi,hfr,hB⟩:=hrel
     by_cases hin:i<fl.length
     ·obtain⟨y,hy⟩:=elem_at hin
      have hdr:fl.drop i=y::fl.drop (i+1):=by
       rw[List.drop_eq_getElem_cons (zge hy).1,(zge hy).2]
      rw[hdr,roundIn]at hRi
      have hRy:=HX.out.2.1 y (zmg hy)
      obtain⟨hyl,_⟩:=HS.out.2.2.1 y hRy
      obtain⟨fg,foff,rfl,hfg⟩:=hfr.addr hy
      have z0:=row_nat hfr hy
      have hin':(i:Int)<fl.length:=by omega
      have hwi:IntKind.i64.wrap ((i:Int)+1)=(i:Int)+1:=IntWalk.i64_in _ (by omega)
      obtain⟨bx,hbx⟩:=elem_at (l:=seen') (k:=y) (by rw[hI.len,HS.out.2.2.2.2.2];exact hyl)
      rw[List.getD_eq_getElem?_getD,hbx,Option.getD_some]at hRi
      have s0:=row_bool hS hbx
      rw[Nat.zero_add]at s0
      have hsl:w1.heap.size<wr.heap.size:=hS.lt rfl
      have hyn:(y:Int)<n:=by have:=HS.out.2.2.2.2.2;omega
      obtain⟨c2,hc2⟩:=elem_at hyl
      have q0:=(hB.cell (p:=⟨b,0,none⟩) hbl).trans QQ.out
      have hbr:b<wr.heap.size:=Nat.lt_of_lt_of_le hbl hB.size
      obtain⟨_,_,hgg,hg2,m0,m1⟩:=code_cells (HS.out.1.keep (S:=fun _=>False) (zkb hB) (fun _ _ f=>f)) hc2
      cases hgg
      have hra:restsAt code y=restsL c2:=by unfold restsAt;rw[hc2]
      rw[hra]at hRi
      obtain⟨op2,a2⟩:=c2
      dsimp only at m0 m1
      have RE:=zhd (rests_any op2 a2)
      generalize restsL ⟨op2,a2⟩=rs at*
      have HY:=zh8 hgk hS hT hTo hI hfr hB (zai hbx hRy)
      clear hgk hS hT hTo hI hfr hB hbx hRy hdr hy hc2 hra hyl
      cases hyk:(y==k0)with
      |true=>
       have hyk':((y:Int)==(k0:Int))=true:=by
        rw[beq_iff_eq]at hyk⊢
        omega
       rw[hyk]at hRi
       simp only[cond_true]at hRi
       have hr:=HX.out.1
       rw[HF.out.2.2.2.1,←hRi]at hr
       subst hr
       clear hyk hRi
       go_wp2_with fail
       go_ret
       exact⟨rfl,HY.out.2.2.2.2.2.2.1⟩
      |false=>
       have hyk':((y:Int)==(k0:Int))=false:=by
        rw[beq_eq_false_iff_ne]at hyk⊢
        omega
       rw[hyk]at hRi
       simp only[cond_false]at hRi
       clear hyk
       cases bx with
       |true=>
        simp only[Bool.not_true,Bool.false_and,cond_false]at hRi
        have HZ:=zhd hRi
        clear hRi
        go_wp2_with fail
        go_roundg (fl.length - (i+1))
        case measure=>have:=HY.out.1;omega
        case rel=>exact⟨i+1,seen',todo',by simp,by omega,rfl,HY.out.2.1,HY.out.2.2.1,HY.out.2.2.2.1,HY.out.2.2.2.2.1,HZ.out,HY.out.2.2.2.2.2.1,HY.out.2.2.2.2.2.2.1⟩
       |false=>
        go_wp2_with fail
        refine(RE.out _).mono ?_
        rintro e w7 ⟨rfl,hB7⟩
        have H7:=zhd hB7
        have s0:=(hB7.cell (p:=⟨w1.heap.size,y,none⟩) hsl).trans s0
        have hsl:w1.heap.size<w7.heap.size:=Nat.lt_of_lt_of_le hsl hB7.size
        clear hB7 m0 m1 q0 z0
        cases rs with
        |true=>
         simp only[Bool.not_true,Bool.not_false,Bool.true_and,cond_false]at hRi
         have HZ:=zhd hRi
         clear hRi
         go_wp2_with fail
         go_roundg (fl.length - (i+1))
         case measure=>have:=HY.out.1;omega
         case rel=>exact⟨i+1,seen',todo',by simp,by omega,rfl,HY.out.2.1.below H7.out,HY.out.2.2.1.below H7.out,HY.out.2.2.2.1,HY.out.2.2.2.2.1,HZ.out,HY.out.2.2.2.2.2.1.below H7.out,HY.out.2.2.2.2.2.2.1.trans (H7.out.mono HY.out.2.2.2.2.2.2.1.size)⟩
        |false=>
         simp only[Bool.not_false,Bool.and_self,cond_true]at hRi
         have HZ:=zhd hRi
         clear hRi
         obtain⟨za,zc,rfl⟩:=HY.out.2.2.1.slice
         have hlt:todo'.length≤600:=by have:=HY.out.2.2.2.2.1.less;have:=HX.out.2.2.2.2.2.2.2.2;omega
         have S7:=(HY.out.2.1.below H7.out).setOne HY.out.2.2.2.2.2.2.2.1 (y:=true) (j:=0) (u:=.bool true) (by decide) rfl
         rw[show 0+(y*sz Bool+0)=y from by simp[Cells.sz]]at S7
         have K8:Keeps (fun j=>j=w1.heap.size) w7 (w7.setCell ⟨w1.heap.size,y,none⟩ (.bool true)):=Keeps.setCell (S:=fun j=>j=w1.heap.size) (p:=⟨w1.heap.size,y,none⟩) (Keeps.refl _ _) (.inl rfl) _
         have T7:=(HY.out.2.2.1.below H7.out).keep K8 (fun g hg e=>by have:=(HY.out.2.2.2.1 g hg).1;omega)
         have fz:∀o,w7.frozen? ⟨w1.heap.size,o,none⟩=false:=fun o=>(HY.out.2.1.below H7.out).frozen o
         have AN:=zhd (show((w7.setCell ⟨w1.heap.size,y,none⟩ (.bool true)).alloc (.cells #[.int .i64 y] 3)).heap[w7.heap.size]? =some (.cells (Cells.enc y).toArray 3 (0,0))from by
          have:=heap_alloc_new (w7.setCell ⟨w1.heap.size,y,none⟩ (.bool true)) (.cells #[.int .i64 y] 3)
          rwa[setCell_size]at this)
         have HA:=zh3 S7 T7 K8
         clear S7 T7 K8
         go_wp2_with (at_builtin;go_must (refine wp_appW (α:=Nat) elemN rfl (.tmp 67) (.tmp 69) rfl (HA.out.2.1.alloc _) y rfl rfl AN.out (by omega) (by unfold maxLen;omega) ?_);intro a1 q1 w8 hr1 hk1 hf1;have H8:=zh3 hr1 hk1 hf1;clear hr1 hk1 hf1)
         go_roundg (fl.length - (i+1))
         case measure=>have:=HY.out.1;omega
         case rel=>
          have hsb:∀g,(Value.slice (some ⟨w1.heap.size,0,none⟩) n n).ownBlock=some g→g=w1.heap.size:=fun g h=>(Option.some.inj h).symm
          have hV6:=HY.out.2.2.2.1
          have hWs:=HR.out.2.size
          have hfb:∀g,(Value.slice (some ⟨fg,foff,none⟩) fl.length fc).ownBlock=some g→g<wr.heap.size:=fun g h=>HY.out.2.2.2.2.2.1.lt h
          have hfw:=HF.out.2.1
          have h7:=H7.out.size
          have h67:=HX.out.2.2.2.2.2.2.2.1
          refine⟨i+1,seen'.set y true,todo'++[y],by simp,by omega,rfl,(HA.out.1.alloc _).keep H8.out.2.1 (fun g hg e=> ?_),H8.out.1,fun g hg=> ?_,HY.out.2.2.2.2.1.see HY.out.2.2.2.2.2.2.2.1 HY.out.2.2.2.2.2.2.2.2,HZ.out,(((HY.out.2.2.2.2.2.1.below H7.out).keep HA.out.2.2 (fun g hg e=> ?_)).alloc _).keep H8.out.2.1 (fun g hg e=> ?_),?_⟩
          ·have:=hsb g hg
           have:=(hV6 g e).1
           omega
          ·rcases H8.out.2.2 g hg with h|h
           ·exact hV6 g h
           ·have h9:w7.heap.size+1≤g:=by simpa[setCell_size]using h
            exact⟨by omega,fun e=>by have:=hfb g e;omega⟩
          ·have:=hfw g hg
           omega
          ·exact(hV6 g e).2 hg
          ·exact HY.out.2.2.2.2.2.2.1.trans ((H7.out.mono HY.out.2.2.2.2.2.2.1.size).trans ((HA.out.2.2.below (by have:=HY.out.2.2.2.2.2.2.1.size;omega) (fun j hj e=>by omega)).trans (((Below.refl _ _).alloc (by have:=HY.out.2.2.2.2.2.2.1.size;simp;omega) _).trans (H8.out.2.1.below (by have:=HY.out.2.2.2.2.2.2.1.size;simp;omega) (fun j hj e=>by have:=(hV6 j e).1;omega)))))
     ·obtain rfl:i=fl.length:=by omega
      rw[List.drop_eq_nil_of_le (Nat.le_refl _),roundIn]at hRi
      have hr:=HX.out.1
      rw[HF.out.2.2.2.1,←hRi]at hr
      have HZ:=zh6 hr hS hT hTo hI hB
      clear hr hRi hS hT hTo hI hB hfr
      go_wp2_with fail
      go_roundg f
      case measure=>omega
      case rel=>exact⟨seen',todo',HZ.out.2.1,HZ.out.2.2.1,fun g hg=>(HZ.out.2.2.2.1 g hg).1,HZ.out.2.2.2.2.1,HZ.out.1,HZ.out.2.2.2.2.2,HZ.out.2.1.lt rfl,by have:=HX.out.2.2.2.2.2.2.2.2;omega⟩
end Go.Proofs.YtakljipkaoahnaaGreatDoor
