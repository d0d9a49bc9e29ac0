/- Parts of the proof: what the functions and the plain laws give that later parts lean on. Conditions: none beyond those that each theorem names. -/
import Derived.Test.YtpagmlndgblhhaaGreatDoorW5
set_option maxRecDepth 100000
set_option maxHeartbeats 8000000
namespace Go.Va
open Go.Own Go.RowKit
structure KV where
 vh:Value
 vt:Value
structure KSt where
 heights:List Int
 todo:List Nat
 most:Int
def KO (v:KV)(b j:Nat):Prop:=j=b\/v.vh.ownBlock=some j\/v.vt.ownBlock=some j
structure KS (W:World)(tc ti:TypeId)(b:Nat)(cv:Value)(v:KV)(st:KSt):Prop where
 h:W.heap[b]? =some (.cells #[cv,v.vh,v.vt,st.most] tc (0,0))
 heights:RowAt W ti v.vh st.heights
 todo:RowAt W ti v.vt st.todo
 sh:∀j,v.vh.ownBlock=some j->j≠b
 sd:∀j,v.vt.ownBlock=some j->j≠b/\v.vh.ownBlock≠some j
 lo:∀j,KO v b j->b<=j
def KK (b:Nat)(v:KV)(W:World)(v':KV)(W':World):Prop:=Keeps (KO v b) W W'/\∀j,KO v' b j->KO v b j\/W.heap.size<=j
theorem KK.refl (b:Nat)(v:KV)(W:World):KK b v W v W:=⟨Keeps.refl _ _,fun _ h=>.inl h⟩
theorem KK.trans {b:Nat}{v v' v'':KV}{W W' W'':World}(h:KK b v W v' W')(k:KK b v' W' v'' W''):KK b v W v'' W'':=by
 refine⟨h.1.trans k.1 (fun j hj e=>(h.2 j e).resolve_right (by omega)),fun j hj=> ?_⟩;rcases k.2 j hj with A|A
 .exact h.2 j A
 .exact .inr (znf h.1.size A)
theorem KK.ext {b:Nat}{v:KV}{W W':World}(K:Below W W W'):KK b v W v W':=⟨(zkb (S:=fun _=>False) K).mono (fun _ _ f=>f.elim),fun _ h=>.inl h⟩
section
variable{W W':World} {tc ti:TypeId} {b:Nat} {cv:Value} {v:KV} {st:KSt}
theorem KS.lt (R:KS W tc ti b cv v st){j:Nat}(h:KO v b j):j<W:=by
 rcases h with rfl|h|h
 .exact zlt R.h
 .exact R.heights.lt h
 .exact R.todo.lt h
theorem KS.ext (R:KS W tc ti b cv v st)(K:Below W W W'):KS W' tc ti b cv v st:=
 have A:Keeps (fun _=>False) W W':=zkb K
 ⟨(K.block b (zlt R.h)).trans R.h,R.heights.keep A (fun _ _ f=>f),R.todo.keep A (fun _ _ f=>f),R.sh,R.sd,R.lo⟩
theorem KS.setT (R:KS W tc ti b cv v st){w1:World}{v1:Value}{l1:List Nat}(hr:RowAt w1 ti v1 l1)(K:Keeps (fun j=>v.vt.ownBlock=some j) W w1)(hf:∀g,v1.ownBlock=some g->v.vt.ownBlock=some g\/W.heap.size<=g):
  KS (w1.setCell ⟨b,2,none⟩ v1) tc ti b cv {v with vt:=v1} {st with todo:=l1}/\KK b v W {v with vt:=v1} (w1.setCell ⟨b,2,none⟩ v1):=by
 have F:w1.heap[b]? =some (.cells #[cv,v.vh,v.vt,st.most] tc (0,0)):=(K.block b (zlt R.h) (fun e=>(R.sd b e).1 rfl)).trans R.h;have C:Keeps (fun j=>j=b) w1 (w1.setCell ⟨b,2,none⟩ v1):=Keeps.setCell (S:=fun j=>j=b) (p:=⟨b,2,none⟩) (Keeps.refl _ _) (.inl rfl) _;have D:Keeps (fun j=>j=b\/v.vt.ownBlock=some j) W (w1.setCell ⟨b,2,none⟩ v1):=(K.mono (fun _ _ e=>.inr e)).trans C (fun _ _ e=>.inl e);have A:∀j,KO v b j->j<W.heap.size:=fun j=>R.lt;have E:=zlt R.h;have B:∀j,v1.ownBlock=some j->j≠b/\v.vh.ownBlock≠some j:=fun j hj=>by
  rcases hf j hj with h|h
  .exact R.sd j h
  .exact⟨by omega,fun e=>by have:=A j (.inr (.inl e));omega⟩
 refine⟨⟨by simp[World.setCell,zni,F],R.heights.keep D (fun g hg e=>e.elim (R.sh g hg) (fun e=>(R.sd g e).2 hg)),hr.keep C (fun g hg=>(B g hg).1),R.sh,B,fun j hj=> ?_⟩,D.mono (fun j _ e=>e.elim .inl (fun e=>.inr (.inr e))),fun j hj=> ?_⟩
 .rcases hj with e|e|e
  .exact R.lo j (.inl e)
  .exact R.lo j (.inr (.inl e))
  .rcases hf j e with h|h
   .exact R.lo j (.inr (.inr h))
   .omega
 .rcases hj with e|e|e
  .exact .inl (.inl e)
  .exact .inl (.inr (.inl e))
  .exact(hf j e).imp (fun h=>.inr (.inr h)) id
theorem KS.setH (R:KS W tc ti b cv v st){w1:World}{v1:Value}{l1:List Int}(hr:RowAt w1 ti v1 l1)(K:Keeps (fun j=>v.vh.ownBlock=some j) W w1)(hf:∀g,v1.ownBlock=some g->v.vh.ownBlock=some g\/W.heap.size<=g):
  KS (w1.setCell ⟨b,1,none⟩ v1) tc ti b cv {v with vh:=v1} {st with heights:=l1}/\KK b v W {v with vh:=v1} (w1.setCell ⟨b,1,none⟩ v1):=by
 have F:w1.heap[b]? =some (.cells #[cv,v.vh,v.vt,st.most] tc (0,0)):=(K.block b (zlt R.h) (fun e=>R.sh b e rfl)).trans R.h;have C:Keeps (fun j=>j=b) w1 (w1.setCell ⟨b,1,none⟩ v1):=Keeps.setCell (S:=fun j=>j=b) (p:=⟨b,1,none⟩) (Keeps.refl _ _) (.inl rfl) _;have D:Keeps (fun j=>j=b\/v.vh.ownBlock=some j) W (w1.setCell ⟨b,1,none⟩ v1):=(K.mono (fun _ _ e=>.inr e)).trans C (fun _ _ e=>.inl e);have B:∀j,KO v b j->j<W.heap.size:=fun j=>R.lt;have E:=zlt R.h;have A:∀j,v1.ownBlock=some j->j≠b/\v.vt.ownBlock≠some j:=fun j hj=>by
  rcases hf j hj with h|h
  .exact⟨R.sh j h,fun e=>(R.sd j e).2 h⟩
  .exact⟨by omega,fun e=>by have:=B j (.inr (.inr e));omega⟩
 refine⟨⟨by simp[World.setCell,zni,F],hr.keep C (fun g hg=>(A g hg).1),R.todo.keep D (fun g hg e=>e.elim (R.sd g hg).1 (fun e=>(R.sd g hg).2 e)),fun j hj=>(A j hj).1,fun j hj=>⟨(R.sd j hj).1,fun e=>(A j e).2 hj⟩,fun j hj=> ?_⟩,D.mono (fun j _ e=>e.elim .inl (fun e=>.inr (.inl e))),fun j hj=> ?_⟩
 .rcases hj with e|e|e
  .exact R.lo j (.inl e)
  .rcases hf j e with h|h
   .exact R.lo j (.inr (.inl h))
   .omega
  .exact R.lo j (.inr (.inr e))
 .rcases hj with e|e|e
  .exact .inl (.inl e)
  .exact(hf j e).imp (fun h=>.inr (.inl h)) id
  .exact .inl (.inr (.inr e))
theorem KS.setM (R:KS W tc ti b cv v st)(m:Int):KS (W.setCell ⟨b,3,none⟩ (.int .i64 m)) tc ti b cv v {st with most:=m}/\KK b v W v (W.setCell ⟨b,3,none⟩ (.int .i64 m)):=by
 have A:Keeps (fun j=>j=b) W (W.setCell ⟨b,3,none⟩ (.int .i64 m)):=Keeps.setCell (S:=fun j=>j=b) (p:=⟨b,3,none⟩) (Keeps.refl _ _) (.inl rfl) _;exact⟨⟨by simp[World.setCell,zni,R.h],R.heights.keep A (fun g hg=>R.sh g hg),R.todo.keep A (fun g hg=>(R.sd g hg).1),R.sh,R.sd,R.lo⟩,A.mono (fun j _ e=>.inl e),fun j h=>.inl h⟩
theorem KS.poke (R:KS W tc ti b cv v st){g off n cap:Nat}(hv:v.vh= .slice (some ⟨g,off,none⟩) n cap){k:Nat}{x:Int}(hx:st.heights[k]? =some x)(h:Int):
  KS (W.setCell ⟨g,off+k,none⟩ (.int .i64 h)) tc ti b cv v {st with heights:=st.heights.set k h}/\KK b v W v (W.setCell ⟨g,off+k,none⟩ (.int .i64 h)):=by
 have A:v.vh.ownBlock=some g:=by rw[hv];rfl
 have B:Keeps (fun j=>j=g) W (W.setCell ⟨g,off+k,none⟩ (.int .i64 h)):=Keeps.setCell (S:=fun j=>j=g) (p:=⟨g,off+k,none⟩) (Keeps.refl _ _) (.inl rfl) _;refine⟨⟨(B.block b (zlt R.h) (fun e=>R.sh g A e.symm)).trans R.h,?_,R.todo.keep B (fun j hj e=>(R.sd j hj).2 (by subst e;exact A)),R.sh,R.sd,R.lo⟩,B.mono (fun j _ e=>by subst e;exact .inr (.inl A)),fun j h=>.inl h⟩;have:=R.heights;rw[hv]at this|-;have C:=this.setOne hx (y:=h) (j:=0) (u:=.int .i64 h) (by decide) rfl;rwa[show off+(k*Cells.sz Int+0)=off+k from by simp[Cells.sz]]at C
end
def comeL (n k:Nat)(h:Int)(st:KSt):Int×KSt:=
 bif decide (n<=k)then(132,st)else
 bif decide (st.heights.getD k 0<0)then(0,{st with heights:=st.heights.set k h,todo:=st.todo++[k]})else
 bif st.heights.getD k 0 !=h then(131,st)else(0,st)
end Go.Va
namespace Go.Proofs.YtpagmlndgblhhaaGreatDoor
open Go.RowKit Go.Own Go.Own.MapTy Go.Va Go.Sort
open Go.Own.Cells (sz enc)
abbrev KX (W:World)(b:Nat)(cv:Value)(v:KV)(st:KSt):Prop:=KS W 177 3 b cv v st
def ype (W:World)(b:Nat)(cv:Value)(v:KV)(r:Int×KSt)(e:Ending)(w':World):Prop:=∃v',e= .returned (.int .i64 r.1)/\Hid (KX w' b cv v' r.2/\KK b v W v' w')
theorem ykT:ElemOf Nat Tryz.prog 79 3 8:=ycj Tryz.underlying79 (z:=.int .i64 0) (n:=1) (by kernel_rfl) rfl rfl
theorem yoJ:ElemOf Int Tryz.prog 79 3 8:=ycj Tryz.underlying79 (z:=.int .i64 0) (n:=1) (by kernel_rfl) rfl rfl
theorem yiE (b:Nat)(ca:Option Addr)(n cc:Nat)(v:KV)(st:KSt)(k:Nat)(h:Int)(W:World)(R:KX W b (.slice ca n cc) v st)(hn:st.heights.length=n)(ht:st.todo.length<=65536)(r:Int×KSt)(hr:comeL n k h st=r):
  Calls Tryz.prog 133 #[.pointer (some ⟨b,0,none⟩),k,h] W (ype W b (.slice ca n cc) v r):=by
 obtain⟨Q,P⟩:=v;obtain⟨M,L,rfl⟩:∃a cap,P= .slice a st.todo.length cap:=R.todo.slice;obtain⟨Z,X,rfl⟩:∃a cap,Q= .slice a st.heights.length cap:=R.heights.slice;have t:=zlt R.h;have H:∀o,W.cell? ⟨b,o,none⟩=(#[.slice ca n cc,.slice Z st.heights.length X,.slice M st.todo.length L,.int .i64 st.most]:Array Value)[o]? :=fun o=>by rw[zch R.h]
 have U:=H 0;have N:=H 1;have T:=H 2;simp only[zmc,zma,zmb]at U N T;clear H;have q:∀o,W.frozen? ⟨b,o,none⟩=false:=fun o=>zfr R.h o;unfold comeL at hr;have B:=zhd R;clear R;go_in;by_cases hk:n<=k
 .have d:(n:Int)<=k:=by omega
  rw[zno hk]at hr;simp only[znm]at hr;subst hr;clear hk;go_wp2;go_ret;exact⟨_,rfl,zhd ⟨B.o,KK.refl _ _ _⟩⟩
 .have d:¬(n:Int)<=k:=by omega
  rw[znd hk]at hr;simp only[znl]at hr;obtain⟨x,I⟩:=yae (l:=st.heights) (k:=k) (by omega);have V:(k:Int)<st.heights.length:=by omega
  rw[List.getD_eq_getElem?_getD,I,Option.getD_some]at hr;obtain⟨g,D,rfl,j⟩:=B.o.heights.addr I;have i:=ydf B.o.heights I;have J:¬g=b:=B.o.sh g rfl;have Y:¬b=g:=fun e=>J e.symm;have m:∀o,W.frozen? ⟨g,o,none⟩=false:=fun o=>B.o.heights.frozen o;have O:=zh2 hn ht;clear hn ht hk;cases h1:decide (x<0)with
  |true=>
   have c:x<0:=znx h1;rw[h1]at hr;simp only[znm]at hr;subst hr;have G:=zhd (B.o.poke rfl I h);have f:=zhd (show((W.setCell ⟨g,D+k,none⟩ (.int .i64 h)).alloc (.cells #[k] 3)).heap[W.heap.size]? =some (.cells (Cells.enc k).toArray 3 (0,0))from by
    have:=znb (W.setCell ⟨g,D+k,none⟩ (.int .i64 h)) (.cells #[k] 3);rwa[ycn]at this)
   go_wp2_with (at_builtin;go_must (refine ybk (α:=Nat) ykT rfl (.tmp 35) (.tmp 37) rfl (G.o.1.todo.alloc _) k rfl rfl f.o (by have:=O.o.2;dsimp only;omega) (by have:=O.o.2;dsimp only;unfold maxLen;omega) ?_);intro u N w1 E C F;have A:=(C.block b (by simp;omega) (fun e=>(G.o.1.sd b e).1 rfl)).trans ((zne _ _ _ (by simp;omega)).trans G.o.1.h);have c2:w1.cell? ⟨b,2,none⟩=some (.slice M st.todo.length L):=by{rw[zch A];rfl};have p:∀o,w1.frozen? ⟨b,o,none⟩=false:=fun o=>zfr A o;have s:b<w1:=zlt A;have K:=zh3 E C F;clear A E C F);have S:=(G.o.1.ext (zal)).setT K.o.1 K.o.2.1 K.o.2.2;go_ret;exact⟨_,rfl,zhd ⟨S.1,G.o.2.trans ((KK.ext (zal)).trans S.2)⟩⟩
  |false=>
   have c:¬x<0:=zny h1;rw[h1]at hr;simp only[znl]at hr;cases h2:(x !=h)with
   |true=>
    rw[h2]at hr;simp only[znm]at hr;subst hr;go_wp2;go_ret;exact⟨_,rfl,zhd ⟨B.o,KK.refl _ _ _⟩⟩
   |false=>
    rw[h2]at hr;simp only[znl]at hr;subst hr;go_wp2;go_ret;exact⟨_,rfl,zhd ⟨B.o,KK.refl _ _ _⟩⟩
end Go.Proofs.YtpagmlndgblhhaaGreatDoor
namespace Go.Va
open Go.Own Go.RowKit
def ybY (n:Nat)(h:Int):List Nat->KSt->Int×KSt
 |[],st=>(0,st)
 |x::r,st=>bif (comeL n x h st).1 !=0 then comeL n x h st else ybY n h r (comeL n x h st).2
def stepL (n:Nat)(c:In)(k:Nat)(st:KSt):Int×KSt:=
 bif decide (st.heights.getD k 0 - yaB c<0)then(131,st)else
 bif decide (32<st.heights.getD k 0 - yaB c+(ofL c.op).1.o)then(131,st)else
 ybY n (st.heights.getD k 0 - yaB c+(ofL c.op).1.o) (followN c k) {st with most:=max st.most (st.heights.getD k 0 - yaB c+(ofL c.op).1.o)}
theorem ygC (n k:Nat)(h:Int)(st:KSt):(comeL n k h st).2.heights.length=st.heights.length/\(comeL n k h st).2.todo.length<=st.todo.length+1:=by
 unfold comeL;cases decide (n<=k)
 .cases decide (st.heights.getD k 0<0)
  .cases(st.heights.getD k 0 !=h)<;>simp
  .simp
 .simp
def yjj:List Int->Nat
 |[]=>0
 |x::r=>(bif decide (x<0)then 1 else 0)+yjj r
theorem yio:∀(l:List Int) (k:Nat) (x h:Int),l[k]? =some x->x<0->0<=h->yjj (l.set k h)+1=yjj l
 |[],_,_,_,hx,_,_=>by simp at hx
 |y::r,0,x,h,hx,h1,h2=>by
  simp at hx;subst hx;simp only[List.set_cons_zero,yjj,zno h1,znd (show¬h<0 by omega),znm,znl];omega
 |y::r,k+1,x,h,hx,h1,h2=>by
  have:=yio r k x h (by simpa using hx) h1 h2;simp only[List.set_cons_succ,yjj];omega
theorem yb2:∀n:Nat,yjj (List.replicate n (-1))=n
 |0=>rfl
 |n+1=>by
  rw[List.replicate_succ,yjj,yb2 n];simp;omega
structure Inv (n f:Nat)(st:KSt):Prop where
 len:st.heights.length=n
 all:∀x∈st.heights,-1<=x/\x<=32
 todo:∀k∈st.todo,∃x,st.heights[k]? =some x/\0<=x
 less:yjj st.heights+st.todo.length<=f
 m0:0<=st.most
 m1:st.most<=32
theorem yex {n f k:Nat}{h:Int}{st:KSt}(I:Inv n f st)(h0:0<=h)(h1:h<=32):Inv n f (comeL n k h st).2:=by
 unfold comeL;by_cases hk:n<=k
 .rw[zno hk];exact I
 .rw[znd hk]
  simp only[znl];obtain⟨x,D⟩:∃x,st.heights[k]? =some x:=⟨st.heights[k]'(by have:=I.len;omega),by simp⟩;rw[List.getD_eq_getElem?_getD,D,Option.getD_some];by_cases hn:x<0
  .rw[zno hn]
   simp only[znm];refine⟨by simpa using I.len,fun y A=> ?_,fun j B=> ?_,?_,I.m0,I.m1⟩
   .rcases List.mem_or_eq_of_mem_set A with h|rfl
    .exact I.all y h
    .omega
   .simp only[List.mem_append,List.mem_singleton]at B
    rcases B with B|rfl
    .obtain⟨y,A,C⟩:=I.todo j B
     refine⟨y,?_,C⟩;rw[List.getElem?_set_ne]
     .exact A
     .intro e
      subst e;rw[D]at A;cases A;omega
    .exact⟨h,by rw[List.getElem?_set_self (by have:=I.len;omega)],h0⟩
   .have:=yio st.heights k x h D hn h0
    have:=I.less;simp only[znk,zmh];omega
  .rw[znd hn]
   simp only[znl];cases(x !=h)
   .exact I
   .exact I
theorem yfh {n f:Nat}{h:Int}(h0:0<=h)(h1:h<=32):∀(l:List Nat) {st:KSt},Inv n f st->Inv n f (ybY n h l st).2
 |[],_,I=>I
 |x::r,st,I=>by
  have h2:=yex (k:=x) I h0 h1;rw[ybY];cases((comeL n x h st).1 !=0)
  .exact yfh h0 h1 r h2
  .exact h2
theorem yf0 {n f k:Nat}{c:In}{st:KSt}(I:Inv n f st)(ho:0<=(ofL c.op).1.o):Inv n f (stepL n c k st).2:=by
 unfold stepL;generalize hh:st.heights.getD k 0 - yaB c=d;by_cases h1:d<0
 .rw[zno h1];exact I
 .rw[znd h1]
  simp only[znl];by_cases h2:32<d+(ofL c.op).1.o
  .rw[zno h2];exact I
  .rw[znd h2]
   simp only[znl];exact yfh (by omega) (by omega) _ ⟨I.len,I.all,I.todo,I.less,by have:=I.m0;show 0<=max _ _;omega,by have:=I.m1;show max _ _<=(32:Int);omega⟩
def yiK (code:List In):Nat->KSt->(Int×Int)×KSt
 |0,st=>((-1,0),st)
 |f+1,st=>match st.todo with
  |[]=>((-1,0),st)
  |k::r=>match code[k]? with
   |none=>((-1,0),st)
   |some c=>bif (stepL code.length c k {st with todo:=r}).1 !=0 then(((k:Int),(stepL code.length c k {st with todo:=r}).1),(stepL code.length c k {st with todo:=r}).2)else yiK code f (stepL code.length c k {st with todo:=r}).2
def walkL (code:List In):(Int×Int)×KSt:=
 let q:=comeL code.length 0 0 ⟨List.replicate code.length (-1),[],0⟩
 bif q.1 !=0 then((0,q.1),q.2)else yiK code (code.length+1) q.2
structure CodeOk (code:List In):Prop where
 len:code.length<=512
 a0:∀c∈code,0<=c.a
 tk:∀c∈code,0<=yaB c/\yaB c<=512
 o:∀c∈code,0<=(ofL c.op).1.o/\(ofL c.op).1.o<=2
theorem cIn (c:In):(⟨c.op,c.a⟩:In)=c:=rfl
end Go.Va
namespace Go.Proofs.YtpagmlndgblhhaaGreatDoor
open Go.RowKit Go.Own Go.Own.MapTy Go.Va Go.Sort
open Go.Own.Cells (sz enc)
theorem KK.row {α:Type}[Cells α]{b:Nat}{v v':KV}{W W':World}{e:TypeId}{x:Value}{l:List α}(K:KK b v W v' W')(h:RowAt W e x l)(hx:∀g,x.ownBlock=some g->¬KO v b g):RowAt W' e x l:=h.keep K.1 hx
theorem yd4 {w:World}{e:TypeId}{xs:List Nat}{g off n cap:Nat}(h:RowAt w e (.slice (some ⟨g,off,none⟩) n cap) xs){i:Nat}{x:Nat}(hx:xs[i]? =some x):w.cell? ⟨g,off+i,none⟩=some (.int .i64 (x:Int)):=by
 have A:=h.cell hx (j:=0) (by decide);rwa[show off+(i*Cells.sz Nat+0)=off+i from by simp[Cells.sz]]at A
theorem yew {α:Type}[Cells α]{P:Program}{t e:TypeId}{bytes:Nat}(E:ElemOf α P t e bytes){w:World}{ad:Option Addr}{n cap:Nat}{xs:List α}(h:RowAt w e (.slice ad n cap) xs){k:Nat}(hk:k<=xs.length):
  ∃ad',(∀W:World,(Instr.slice t (.slice ad n cap) (some (.int .i64 k)) none none).run P W= .ok (.slice ad' (n - k) (cap - k)) W)/\RowAt w e (.slice ad' (n - k) (cap - k)) (xs.drop k)/\∀g,(Value.slice ad' (n - k) (cap - k)).ownBlock=some g->(Value.slice ad n cap).ownBlock=some g:=by
 obtain⟨i,z,hi,L,I,K,J⟩:=E.hi;cases ad with
 |none=>
  rcases h with⟨h,rfl⟩|⟨g,A,c,B,h,_⟩
  .cases h
   simp at hk;subst hk;exact⟨none,fun W=>by simp[Instr.slice,run_underlying E.ht,Instr.sliceBounds,Instr.sliceBound,asIntOf,sizeOf,typeInfo,hi,Result.andThen],.inl ⟨rfl,rfl⟩,fun g h=>(by cases h)⟩
  .cases h
 |some ad=>
  rcases h with⟨h,_⟩|⟨g,A,c,B,h,F,D⟩
  .cases h
  .cases h
   obtain⟨C,H,G⟩:=ycH E.ht hi I (RowAt.slice_mk F D) hk;exact⟨_,H,G,fun g h=>h⟩
theorem ylv (b:Nat)(F:Nat->Prop)(hF:∀j,F j->j<b)(ca:Option Addr)(n cc:Nat)(code:List In)(v:KV)(st:KSt)(k:Nat)(c:In)(W:World)(R:KX W b (.slice ca n cc) v st)(HC:RdF F W (.slice ca n cc) code)(hc:code[k]? =some c)
  (hn:st.heights.length=n)(ht:st.todo.length<=65530)(hk:k<65536)(ha:0<=c.a)(h1:0<=yaB c/\yaB c<=512)(h2:0<=(ofL c.op).1.o/\(ofL c.op).1.o<=2)(x:Int)(hx:st.heights[k]? =some x)(hx1: -1<=x/\x<=32)(r:Int×KSt)(hr:stepL n c k st=r):
  Calls Tryz.prog 134 #[.pointer (some ⟨b,0,none⟩),k] W (ype W b (.slice ca n cc) v r):=by
 unfold stepL at hr;obtain⟨t,Al,g,E,V,Aa⟩:=HC.elems;obtain⟨As,hg,U⟩:=Aa k c hc;have V:=V.resolve_right (fun e=>by rw[e]at hc;simp at hc);subst V;have m0:=U 0 _ rfl;have m1:=U 1 _ rfl;rw[show E+(k*sz In+0)=E+k*2 from rfl]at m0;rw[show E+(k*sz In+1)=E+k*2+1 from rfl]at m1;have An:=(zge hc).1;have Am:(k:Int)<n:=by omega
 have FO:=zhd (fun W' (K:Keeps (fun j=>b<=j) W W')=>ydh (HC.keep K (fun g hg=>by have:=hF g hg;omega)) k c hc ha hk);have Ap:(followN c k).length<=2:=by
  unfold followN;cases(ofL c.op).1.ends
  .cases(c.op==11)
   .cases(ofL c.op).1.flow<;>simp
   .simp
  .simp
 generalize followN c k=fl at*;have HW:=zh2 HC hF;clear Aa U hc HC ha;obtain⟨vh,vt⟩:=v;obtain⟨ta,tc,rfl⟩:∃a cap,vt= .slice a st.todo.length cap:=R.todo.slice;obtain⟨ha,hc,rfl⟩:∃a cap,vh= .slice a st.heights.length cap:=R.heights.slice;have Y:=zlt R.h;have qq:∀o,W.cell? ⟨b,o,none⟩=(#[.slice (some ⟨g,E,none⟩) n cc,.slice ha st.heights.length hc,.slice ta st.todo.length tc,.int .i64 st.most]:Array Value)[o]? :=fun o=>by rw[zch R.h]
 have l:=qq 0;have q1:=qq 1;have f:=qq 3;simp only[zmc,zma,zmb]at l q1 f;clear qq;have f0:∀o,W.frozen? ⟨b,o,none⟩=false:=fun o=>zfr R.h o;obtain⟨Q,L,rfl,O⟩:=R.heights.addr hx;have y0:=ydf R.heights hx;have Ao:(k:Int)<st.heights.length:=by omega
 rw[List.getD_eq_getElem?_getD,hx,Option.getD_some]at hr;obtain⟨A,ok,M⟩:∃A ok,ofL c.op=(A,ok):=⟨_,_,rfl⟩;have OF:=zhd (ybc c.op A ok M);have TK:=zhd (yjR c.op c.a);rw[cIn]at TK;rw[M]at hr h2;obtain⟨tk,s⟩:∃tk,yaB c=tk:=⟨_,rfl⟩;rw[s]at hr h1 TK;dsimp only at hr h2;have Ak:IntKind.i64.wrap (x - tk)=x - tk:=zmk _ (by omega);have q:IntKind.i64.wrap (x - tk+A.o)=x - tk+A.o:=zmk _ (by omega);obtain⟨op,a⟩:=c;dsimp only at m0 m1 OF TK;have HR:=zhd R;have HB:=zh3 hn ht t;clear R hn ht t M s hx;go_in;go_wp2_with fail;refine(OF.o _).mono ?_;rintro e w5 ⟨rfl,I⟩;obtain⟨w6,C⟩:∃w6,w6=w5.alloc (.cells #[A.name,A.operand,A.i,A.o,A.blocks,A.ends,A.flow] 169):=⟨_,rfl⟩;have Ae:W.heap.size+1<=w5.heap.size:=by have:=I.size;simpa using this
 have B5:Below W W w5:=((znv _ _).alloc (znc _) (.cells #[op,a] 106)).trans (I.mono (by simp));have Z:Below W W w6:=by rw[C];exact B5.alloc (by omega) _
 have Ad:w6.heap.size=w5.heap.size+1:=by rw[C];simp
 have Ar:¬b=w5.heap.size:=by omega
 have u3:w6.cell? ⟨w5,3,none⟩=some (.int .i64 A.o):=by rw[C,zch (znb _ _)];rfl
 have i0:w6.cell? ⟨W,0,none⟩=some (.int .i64 op):=by rw[C,znt (w:=w5) (zne _ _ _ (by show W<w5.heap.size;omega)),I.cell (p:=⟨W,0,none⟩) (by simp),zch (znb _ _)];rfl
 have i1:w6.cell? ⟨W,1,none⟩=some (.int .i64 a):=by rw[C,znt (w:=w5) (zne _ _ _ (by show W<w5.heap.size;omega)),I.cell (p:=⟨W,1,none⟩) (by simp),zch (znb _ _)];rfl
 have R6:=HR.o.ext Z;have l:=(Z.cell (p:=⟨b,0,none⟩) Y).trans l;have q1:=(Z.cell (p:=⟨b,1,none⟩) Y).trans q1;have f:=(Z.cell (p:=⟨b,3,none⟩) Y).trans f;have y0:=(Z.cell (p:=⟨Q,L+k,none⟩) O).trans y0;have Y:b<w6:=by omega
 have O:Q<w6.heap.size:=by omega
 have lW:W<w6.heap.size:=by omega
 have l5:w5<w6.heap.size:=by omega
 have f0:∀o,w6.frozen? ⟨b,o,none⟩=false:=fun o=>zfr R6.h o;have H6:=zh2 Z R6;go_wp2_with fail;rw[<-C];clear C B5 Z R6 I Ae Ad OF m0 m1 hg;refine yaA (by kernel_rfl) (by kernel_rfl) ?_
 repeat(go_big_quiet_step ((go_at_call 154;exact yci (TK.o _))))
 refine wpQuiet_nil ?_;intro w7 D;have l:=(D.cell (p:=⟨b,0,none⟩) Y).trans l;have f:=(D.cell (p:=⟨b,3,none⟩) Y).trans f;have u3:=(D.cell (p:=⟨w5,3,none⟩) l5).trans u3;have J:=zh2 (H6.o.1.trans (D.mono H6.o.1.size)) (H6.o.2.ext D);have f0:∀o,w7.frozen? ⟨b,o,none⟩=false:=fun o=>zfr J.o.2.h o;have Y:b<w7:=zlt J.o.2.h;have l5:w5<w7.heap.size:=znj l5 D.size;clear D i0 i1 y0 q1 O lW TK;cases h5:decide (x - tk<0)with
 |true=>
  have e5:x - tk<0:=znx h5;rw[h5]at hr;simp only[znm]at hr;subst hr;go_wp2;go_ret;exact⟨_,rfl,zhd ⟨J.o.2,KK.ext J.o.1⟩⟩
 |false=>
  have e5:¬x - tk<0:=zny h5;rw[h5]at hr;simp only[znl]at hr;cases h6:decide (32<x - tk+A.o)with
  |true=>
   have e6:32<x - tk+A.o:=znx h6;rw[h6]at hr;simp only[znm]at hr;subst hr;go_wp2;go_ret;exact⟨_,rfl,zhd ⟨J.o.2,KK.ext J.o.1⟩⟩
  |false=>
   have e6:¬32<x - tk+A.o:=zny h6;rw[h6]at hr;simp only[znl]at hr;obtain⟨h,hh⟩:∃h,h=x - tk+A.o:=⟨_,rfl⟩;have Aj:IntKind.i64.wrap (x - tk+A.o)=h:=by rw[hh];exact q
   rw[<-hh]at hr e6;have PM:=zhd (J.o.2.setM (max st.most h));have K8:=zhd (((KK.ext J.o.1).trans PM.o.2).1.mono (T:=fun j=>b<=j) (fun j _ e=>HR.o.lo j e));have HH:=zhd hr;clear hr hh h5 h6 q;go_wp2_with fail;refine(FO.o _ K8.o).mono ?_;rintro e w9 ⟨fv,rfl,S,z,X⟩;obtain⟨fa,fc,rfl⟩:=S.slice;have R9:=PM.o.1.ext X;have HF:=zh4 S z X R9;clear S z X R9;go_wp2_with fail;go_loopg [59] (fl.length) (fun gk v59 wr=>∃(i:Nat) (B:KSt) (d:KV),v59= .int .i64 i/\i<=fl.length/\gk=fl.length - i/\KX wr b (.slice (some ⟨g,E,none⟩) n cc) d B/\ybY n h (fl.drop i) B=r/\KK b ⟨.slice (some ⟨Q,L,none⟩) st.heights.length hc,.slice ta st.todo.length tc⟩ w9 d wr/\B.heights.length=n/\B.todo.length<=st.todo.length+i)
   case atStart=>exact⟨0,_,_,rfl,znq _,rfl,HF.o.2.2.2,HH.o,KK.refl _ _ _,HB.o.1,znc _⟩
   case round=>
    obtain⟨i,B,d,rfl,hi,P,hR,H,hK,N,u⟩:=hrel;by_cases hin:i<fl.length
    .obtain⟨y,m⟩:=yae hin
     have Ab:fl.drop i=y::fl.drop (i+1):=by
      rw[znr (zge m).1,(zge m).2]
     rw[Ab,ybY]at H;have RF:=KK.row hK HF.o.1 (fun j hj e=>by have:=HF.o.2.1 j hj;have:=PM.o.1.lt e;omega);obtain⟨fg,Ah,rfl,Aq⟩:=RF.addr m;have z0:=yd4 RF m;have Ag:(i:Int)<fl.length:=by omega
     have CO:=zhd (yiE b _ n cc d B y h wr hR N (by have:=HB.o.2.1;omega) _ rfl);have Ac:=ygC n y h B;generalize comeL n y h B=cq at*;have G:=zh6 H P hK Ac N u;clear H P hK Ac Ab m RF hR N u;go_wp2_with fail;refine CO.o.mono ?_;rintro e Ai ⟨v5,rfl,H5⟩;cases hz:(cq.1 !=0)with
     |true=>
      have hr:=G.o.1;rw[hz]at hr;simp only[znm]at hr;subst hr;go_wp2;go_ret;exact⟨v5,rfl,zhd ⟨H5.o.1,(KK.ext J.o.1).trans (PM.o.2.trans ((KK.ext HF.o.2.2.1).trans (G.o.2.2.1.trans H5.o.2)))⟩⟩
     |false=>
      have hr:=G.o.1;rw[hz]at hr;simp only[znl]at hr;have Af:=zhd hr;clear hr;go_wp2_with fail;go_roundg (fl.length - (i+1))
      case measure=>have:=G.o.2.1;omega
      case rel=>exact⟨i+1,cq.2,v5,by simp,by omega,rfl,H5.o.1,Af.o,G.o.2.2.1.trans H5.o.2,by rw[G.o.2.2.2.1.1];exact G.o.2.2.2.2.1,by have:=G.o.2.2.2.1.2;have:=G.o.2.2.2.2.2;omega⟩
    .obtain rfl:i=fl.length:=by omega
     rw[zns (znc _),ybY]at H;have G:=zh2 hR hK;subst H;clear hR hK P;go_wp2;go_ret;exact⟨d,rfl,zhd ⟨G.o.1,(KK.ext J.o.1).trans (PM.o.2.trans ((KK.ext HF.o.2.2.1).trans G.o.2))⟩⟩
def ypd (W:World)(b:Nat)(cv:Value)(q:(Int×Int)×KSt)(e:Ending)(w':World):Prop:=∃v',e= .returned (.agg #[.int .i64 q.1.1,.int .i64 q.1.2])/\Hid (KX w' b cv v' q.2/\KK b ⟨.slice none 0 0,.slice none 0 0⟩ W v' w')
theorem yky (b:Nat)(F:Nat->Prop)(hF:∀j,F j->j<b)(ca:Option Addr)(n cc:Nat)(code:List In)(W:World)(R:KX W b (.slice ca n cc) ⟨.slice none 0 0,.slice none 0 0⟩ ⟨[],[],0⟩)(HC:RdF F W (.slice ca n cc) code)(OK:CodeOk code)(q:(Int×Int)×KSt)(hq:walkL code=q):
  Calls Tryz.prog 95 #[.pointer (some ⟨b,0,none⟩)] W (ypd W b (.slice ca n cc) q):=by
 have H:=HC.elems.1;have b0:=zlt R.h;have q0:=zca R.h 0 rfl;have z:=zh4 HC OK hq hF;have hn:=OK.len;rw[<-H]at hn;have Q:=zh2 R H;clear R HC OK hq H;go_in;go_wp2_with fail;obtain⟨u,N⟩:∃u,u=W.alloc (.cells #[.int .i64 0,.int .i64 0] 112):=⟨_,rfl⟩;have B1:=zba N;have f1:=zha N;rw[<-N];have T:=zh3 B1 f1 (Q.o.1.ext B1);clear N B1 f1;go_loopg [11] n (fun gk v11 wr=>∃(i:Nat) (t:Value),v11= .int .i64 i/\i<=n/\gk=n - i/\KX wr b (.slice ca n cc) ⟨t,.slice none 0 0⟩ ⟨List.replicate i (-1),[],0⟩/\KK b ⟨.slice none 0 0,.slice none 0 0⟩ u ⟨t,.slice none 0 0⟩ wr)
 case atStart=>exact⟨0,_,rfl,znq _,rfl,T.o.2.2,KK.refl _ _ _⟩
 case round=>
  obtain⟨i,t,rfl,hi,Z,C,K⟩:=hrel;by_cases hin:i<n
  .have Ao:(i:Int)<n:=by omega
   obtain⟨ha,s,he⟩:=C.heights.slice;rw[List.length_replicate]at he;dsimp only at he;subst he;have b1:=zlt C.h;have q1:=zca C.h 1 rfl;have f0:∀o,wr.frozen? ⟨b,o,none⟩=false:=fun o=>zfr C.h o;have G:=zh3 Z C K;clear Z C K;go_wp2_with (at_builtin;go_must (refine ybk (α:=Int) yoJ rfl (.tmp 17) (.tmp 18) rfl (G.o.2.1.heights.alloc _) (-1) rfl rfl (znb _ _) (by simp;omega) (by simp;unfold maxLen;omega) ?_);intro a1 q1 w1 U X l;rw[List.length_replicate]at U;simp only[List.length_replicate]at l;have M:=(X.block b (by simp;omega) (fun e=>G.o.2.1.sh b e rfl)).trans ((zne _ _ _ b1).trans G.o.2.1.h);have c2:w1.cell? ⟨b,1,none⟩=some (.slice ha i s):=by{rw[zch M];rfl};have f1:∀o,w1.frozen? ⟨b,o,none⟩=false:=fun o=>zfr M o;have b1:b<w1:=zlt M;have HF:=zh3 U X l;clear M U X l);have S:=zhd ((G.o.2.1.ext ((znv _ _).alloc (znc _) (.cells #[.int .i64 (-1)] 3))).setH HF.o.1 HF.o.2.1 HF.o.2.2);go_roundg (n - (i+1))
   case measure=>have:=G.o.1;omega
   case rel=>exact⟨i+1,_,by simp,by omega,rfl,by have:=S.o.1;rwa[show List.replicate i (-1:Int)++[-1]=List.replicate (i+1) (-1)from(List.replicate_succ' ..).symm]at this,G.o.2.2.trans ((KK.ext (zal)).trans S.o.2)⟩
  .obtain rfl:i=n:=by omega
   have H:=Q.o.2;subst H;have CO:=zhd (yiE b ca code.length cc ⟨t,.slice none 0 0⟩ _ 0 0 wr C (by simp) (by simp) _ rfl);have D:=yex (n:=code.length) (f:=code.length) (k:=0) (h:=0) (st:=⟨List.replicate code.length (-1),[],0⟩) ⟨by simp,(fun x m=>by rw[(List.mem_replicate.1 m).2];omega),(fun k hk=>by cases hk),(by rw[yb2];simp),Int.le_refl 0,(by show(0:Int)<=32;decide)⟩ (by decide) (by decide);have hq:=z.o.2.2.1;unfold walkL at hq;dsimp only at hq;generalize comeL code.length 0 0 ⟨List.replicate code.length (-1),[],0⟩=cq at*;have G:=zh3 K D hq;clear Z C K D hq;go_wp2_with fail;refine(show Calls _ _ #[_,.int .i64 0,_] _ _ from CO.o).mono ?_;rintro e w5 ⟨v5,rfl,H5⟩;have K5:=G.o.1.trans H5.o.2;have lW:=zlt T.o.2.1;have A:=(K5.1.block W lW (fun e=>by have:=Q.o.1.lt e;omega)).trans T.o.2.1;have z0:=zfr A 0;have z1:=zfr A 1;have q1:=zca A 0 rfl;have q2:=zca A 1 rfl;have l5:=zlt A;have Ab:=zhd K5;clear A K5;have HE:=zhd (fun(p:(Int×Int)×KSt) (vz:KV) (wz:World) (hz:KX wz b (.slice ca code.length cc) vz p.2) (kz:KK b ⟨.slice none 0 0,.slice none 0 0⟩ u vz wz) (x y:Value)=>
    (show KX ((wz.setCell ⟨W,0,none⟩ x).setCell ⟨W,1,none⟩ y) b (.slice ca code.length cc) vz p.2/\KK b ⟨.slice none 0 0,.slice none 0 0⟩ W vz ((wz.setCell ⟨W,0,none⟩ x).setCell ⟨W,1,none⟩ y)from by
      have V:∀j,j=W.heap.size->¬KO vz b j:=fun j hj e=>by
       rcases kz.2 j e with h|h
       .have:=Q.o.1.lt h
        omega
       .have:=zlt T.o.2.1
        omega
      have k1:Keeps (fun j=>j=W) wz ((wz.setCell ⟨W,0,none⟩ x).setCell ⟨W,1,none⟩ y):=Keeps.setCell (S:=fun j=>j=W) (p:=⟨W,1,none⟩) (Keeps.setCell (S:=fun j=>j=W) (p:=⟨W,0,none⟩) (Keeps.refl _ _) (.inl rfl) x) (.inl rfl) y;have hh:=(KK.ext (b:=b) (v:=⟨.slice none 0 0,.slice none 0 0⟩) T.o.1).trans kz;refine⟨⟨(k1.block b (zlt hz.h) (fun e=>V b e (.inl rfl))).trans hz.h,hz.heights.keep k1 (fun g hg e=>V g e (.inr (.inl hg))),hz.todo.keep k1 (fun g hg e=>V g e (.inr (.inr hg))),hz.sh,hz.sd,hz.lo⟩,hh.1.trans k1 (fun j hj e=>by omega),hh.2⟩))
   cases hz:(cq.1 !=0)with
   |true=>
    have B:=G.o.2.2;rw[hz]at B;simp only[znm]at B;subst B;go_wp2_with fail;exact zng (v:=.agg #[.int .i64 0,.int .i64 cq.1]) (by simp only[results,Tryz.results95];go_simp) rfl ⟨v5,rfl,zhd (HE.o ((0,cq.1),cq.2) v5 _ H5.o.1 Ab.o _ _)⟩
   |false=>
    have B:=G.o.2.2;rw[hz]at B;simp only[znl]at B;have Al:=zhd B;clear B;go_wp2_with fail;go_loopg [] (code.length+1) (fun gk wr=>∃(st:KSt) (v:KV),KX wr b (.slice ca code.length cc) v st/\KK b ⟨.slice none 0 0,.slice none 0 0⟩ u v wr/\Inv code.length gk st/\yiK code gk st=q/\gk<=code.length+1)
    case atStart=>
     have I:=G.o.2.1;exact⟨cq.2,v5,H5.o.1,Ab.o,⟨I.len,I.all,I.todo,by have:=I.less;omega,I.m0,I.m1⟩,Al.o,znc _⟩
    case round=>
     obtain⟨st,v,C,K,D,L,d⟩:=hrel;obtain⟨t,vt⟩:=v;obtain⟨ta,tc,rfl⟩:∃a cap,vt= .slice a st.todo.length cap:=C.todo.slice;have b1:=zlt C.h;have Ae:wr.cell? ⟨b,2,none⟩=some (.slice ta st.todo.length tc):=by rw[zch C.h];rfl
     have f0:∀o,wr.frozen? ⟨b,o,none⟩=false:=fun o=>zfr C.h o;cases hto:st.todo with
     |nil=>
      have e0:st.todo.length=0:=by rw[hto];rfl
      rw[e0]at Ae;have hq:((-1,0),st)=q:=by
       cases gk with
       |zero=>exact L
       |succ f=>rw[yiK,hto]at L;exact L
      subst hq;have A:=(K.1.block W lW (fun e=>by have:=Q.o.1.lt e;omega)).trans T.o.2.1;have Ad:=zfr A 0;have Ac:=zfr A 1;have q3:=zca A 0 rfl;have q4:=zca A 1 rfl;have l5:=zlt A;have P:=zh2 C K;clear A C K D L hto d;go_wp2_with fail;exact zng (v:=.agg #[.int .i64 (-1),.int .i64 0]) (by simp only[results,Tryz.results95];go_simp) rfl ⟨_,rfl,zhd (HE.o ((-1,0),st) _ _ P.o.1 P.o.2 _ _)⟩
     |cons k r=>
      obtain⟨f,rfl⟩:∃f,gk=f+1:=⟨gk - 1,by have:=D.less;rw[hto]at this;simp at this;omega⟩;rw[yiK,hto]at L;dsimp only at L;have Y:st.todo[0]? =some k:=by rw[hto];rfl
      obtain⟨x,m,Af⟩:=D.todo k (by rw[hto];exact zmf ..);have Ah:k<code.length:=by have:=(zge m).1;have:=D.len;omega
      obtain⟨c,s⟩:=yae Ah;rw[s]at L;dsimp only at L;have J:=zmg s;have RT:RowAt wr 3 (.slice ta st.todo.length tc) st.todo:=C.todo;obtain⟨tg,Am,rfl,Ap⟩:=RT.addr Y;have t0:=yd4 RT Y;rw[Nat.add_zero]at t0;have O:st.todo.length=r.length+1:=by rw[hto];rfl
      obtain⟨Ai,cR,rT,oT⟩:=yew ykT RT (k:=1) (by omega);rw[show((1:Nat):Int)=1 from rfl]at cR;rw[show st.todo.drop 1=r from by rw[hto];rfl]at rT;have An:(0:Int)<st.todo.length:=by omega
      have ST:=zhd (C.setT (w1:=wr) (v1:=.slice Ai (st.todo.length - 1) (tc - 1)) (l1:=r) rT (Keeps.refl _ _) (fun g hg=>.inl (oT g hg)));have KS2:=(KK.ext (b:=b) (v:=⟨.slice none 0 0,.slice none 0 0⟩) T.o.1).trans (K.trans ST.o.2);have I2:Inv code.length f {st with todo:=r}:=⟨D.len,D.all,(fun j hj=>D.todo j (by rw[hto];exact zme _ hj)),(by have:=D.less;rw[O]at this;show yjj st.heights+r.length<=f;omega),D.m0,D.m1⟩;have E:=z.o.2.1;have Ag:=Q.o.2;have Aj:=zhd (ylv b F z.o.2.2.2 ca code.length cc code _ {st with todo:=r} k c _ ST.o.1 (z.o.1.keep KS2.1 (fun j hj e=>by have:=z.o.2.2.2 j hj;have:=Q.o.1.lo j e;omega)) s D.len (by have:=I2.less;have:=E.len;have:=D.less;have:=G.o.2.1.less;show r.length<=65530;omega) (by have:=E.len;omega) (E.a0 c J) (E.tk c J) (E.o c J) x m (D.all x (zmg m)) _ rfl);have I3:=yf0 (k:=k) (c:=c) I2 (E.o c J).1;generalize stepL code.length c k {st with todo:=r}=sq at*;have P:=zh4 L I3 (K.trans ST.o.2) d;clear L I2 I3 D K KS2 rT oT RT E m Af Y hto s J Ag O d;go_wp2_with fail;refine Aj.o.mono ?_;rintro e w7 ⟨v7,rfl,H7⟩
      have K7:=P.o.2.2.1.trans H7.o.2;have A:=(K7.1.block W lW (fun e=>by have:=Q.o.1.lt e;omega)).trans T.o.2.1;have Ad:=zfr A 0;have Ac:=zfr A 1;have q3:=zca A 0 rfl;have q4:=zca A 1 rfl;have l5:=zlt A;have Aa:=zhd K7;clear A K7;cases hz2:(sq.1 !=0)with
      |true=>
       have B:=P.o.1;rw[hz2]at B;simp only[znm]at B;subst B;go_wp2_with fail;exact zng (v:=.agg #[k,.int .i64 sq.1]) (by simp only[results,Tryz.results95];go_simp) rfl ⟨v7,rfl,zhd (HE.o ((k,sq.1),sq.2) v7 _ H7.o.1 Aa.o _ _)⟩
      |false=>
       have B:=P.o.1;rw[hz2]at B;simp only[znl]at B;have Ak:=zhd B;clear B;go_wp2_with fail;go_roundg f
       case measure=>omega
       case rel=>exact⟨sq.2,v7,H7.o.1,Aa.o,P.o.2.1,Ak.o,by have:=P.o.2.2.2;omega⟩
end Go.Proofs.YtpagmlndgblhhaaGreatDoor
namespace Go.Va
open Go.Own Go.RowKit
def yar (code:List In)(k:Nat):Bool:=match code[k]? with
 |some c=>restsL c
 |none=>true
def yas (code:List In)(k:Nat):List Nat:=match code[k]? with
 |some c=>followN c k
 |none=>[]
def yba (code:List In)(k0:Nat):List Nat->List Bool->List Nat->Option (List Bool×List Nat)
 |[],seen,todo=>some (seen,todo)
 |x::r,seen,todo=>bif x==k0 then none else bif !(seen.getD x false)&& !(yar code x)then yba code k0 r (seen.set x true) (todo++[x])else yba code k0 r seen todo
def ydu (code:List In)(k0:Nat):Nat->List Bool->List Nat->Bool
 |0,_,_=>false
 |f+1,seen,todo=>match todo with
  |[]=>false
  |k::r=>match yba code k0 (yas code k) seen r with
   |none=>true
   |some q=>ydu code k0 f q.1 q.2
def roundL (code:List In)(k0:Nat):Bool:=bif yar code k0 then false else ydu code k0 (code.length+1) (List.replicate code.length false) [k0]
def yel:List Bool->Nat
 |[]=>0
 |x::r=>(bif x then 0 else 1)+yel r
theorem yem (c:In)(k:Nat):(followN c k).length<=2:=by
 unfold followN;cases(ofL c.op).1.ends
 .cases(c.op==11)
  .cases(ofL c.op).1.flow<;>simp
  .simp
 .simp
theorem yek:∀(l:List Bool) (k:Nat),l[k]? =some false->yel (l.set k true)+1=yel l
 |[],_,h=>by simp at h
 |y::r,0,h=>by
  simp at h;subst h;simp only[List.set_cons_zero,yel,znm,znl];omega
 |y::r,k+1,h=>by
  have:=yek r k (by simpa using h);simp only[List.set_cons_succ,yel];omega
theorem ybR:∀n:Nat,yel (List.replicate n false)=n
 |0=>rfl
 |n+1=>by
  rw[List.replicate_succ,yel,ybR n];simp;omega
structure RI (n f:Nat)(Rc:Nat->Prop)(seen:List Bool)(todo:List Nat):Prop where
 len:seen.length=n
 td:∀k∈todo,Rc k
 less:yel seen+todo.length<=f
theorem RI.see {n f:Nat}{Rc:Nat->Prop}{seen:List Bool}{todo:List Nat}(I:RI n f Rc seen todo){x:Nat}(hx:seen[x]? =some false)(hr:Rc x):RI n f Rc (seen.set x true) (todo++[x]):=
 ⟨by simpa using I.len,fun k hk=>by
   simp only[List.mem_append,List.mem_singleton]at hk;rcases hk with hk|rfl
   .exact I.td k hk
   .exact hr,by
   have:=yek seen x hx;have:=I.less;simp only[znk,zmh];omega⟩
end Go.Va
namespace Go.Proofs.YtpagmlndgblhhaaGreatDoor
open Go.RowKit Go.Own Go.Own.MapTy Go.Va Go.Sort
open Go.Own.Cells (sz enc)
theorem yl1:(Tryz.prog.info? 4).map (fun i=>(i.zero,i.size,i.bytes))=some (some (.bool false),1,1):=by kernel_rfl
theorem ydm {F:Nat->Prop}{W:World}{ca:Option Addr}{n cc:Nat}{code:List In}(HC:RdF F W (.slice ca n cc) code){k:Nat}{c:In}(hc:code[k]? =some c):∃g off,ca=some ⟨g,off,none⟩/\g<W.heap.size/\W.cell? ⟨g,off+k*2,none⟩=some (.int .i64 c.op)/\W.cell? ⟨g,off+k*2+1,none⟩=some (.int .i64 c.a):=by
 obtain⟨rfl,D,g,off,A,C⟩:=HC.elems;obtain⟨G,E,B⟩:=C k c hc;have A:=A.resolve_right (fun e=>by rw[e]at hc;simp at hc);exact⟨g,off,A,E,B 0 _ rfl,B 1 _ rfl⟩
def yp3 (W:World)(sb n:Nat)(Rc:Nat->Prop)(code:List In)(k0:Nat)(r:Bool)(gk:Nat)(v6:Value)(wr:World):Prop:=
 ∃(seen:List Bool) (todo:List Nat),RowAt wr 4 (.slice (some ⟨sb,0,none⟩) n n) seen/\RowAt wr 3 v6 todo/\(∀g,v6.ownBlock=some g->sb<g)/\RI n gk Rc seen todo/\ydu code k0 gk seen todo=r/\Below W W wr/\sb<wr.heap.size/\gk<=n+1
def yp4 (W:World)(sb n:Nat)(Rc:Nat->Prop)(code:List In)(k0 f:Nat)(fv:Value)(fl:List Nat)(R:Option (List Bool×List Nat))(gk:Nat)(v41 v6:Value)(wr:World):Prop:=
 ∃(i:Nat) (seen:List Bool) (todo:List Nat),v41= .int .i64 i/\i<=fl.length/\gk=fl.length - i/\RowAt wr 4 (.slice (some ⟨sb,0,none⟩) n n) seen/\RowAt wr 3 v6 todo/\(∀g,v6.ownBlock=some g->sb<g/\fv.ownBlock≠some g)/\RI n f Rc seen todo/\yba code k0 (fl.drop i) seen todo=R/\RowAt wr 3 fv fl/\Below W W wr
theorem yj8 (b:Nat)(F:Nat->Prop)(ca:Option Addr)(n cc:Nat)(code:List In)(W:World)(q0:W.cell? ⟨b,0,none⟩=some (.slice ca n cc))(hbl:b<W)(HC:RdF F W (.slice ca n cc) code)(OK:CodeOk code)(Rc:Nat->Prop)(hcl:∀k,Rc k->k<code.length/\∀x∈yas code k,Rc x)(k0:Nat)(hk0:Rc k0)(r:Bool)(hr:roundL code k0=r):
  Calls Tryz.prog 96 #[.pointer (some ⟨b,0,none⟩),k0] W fun e w'=>e= .returned (.bool r)/\Below W W w':=by
 have Ab:=HC.elems.1;obtain⟨i0,hi,hz,hs,Ax⟩:=info_parts yl1;have Ac:=OK.len;rw[<-Ab]at Ac;obtain⟨cs,A3,Au⟩:=yeM (P:=Tryz.prog) (t:=23) Tryz.underlying23 hi hz hs Ax n (by omega);obtain⟨c,s⟩:=yae (hcl k0 hk0).1;obtain⟨g,Bc,rfl,G,m0,m1⟩:=ydm HC s;have A4:(k0:Int)<n:=by have:=(hcl k0 hk0).1;omega
 have T:=zh6 HC OK hcl hk0 Au Ab;have QQ:=zhd q0;unfold roundL yar at hr;rw[s]at hr;dsimp only at hr;obtain⟨op,a⟩:=c;dsimp only at m0 m1;have RE:=zhd (yd5 op a);generalize restsL ⟨op,a⟩=rs at*;clear HC OK hcl Au Ab s hi hz hs Ax i0 hk0;go_in;go_wp2_with fail;refine(RE.o _).mono ?_;rintro e w1 ⟨rfl,Q⟩;clear RE;cases rs with
 |true=>
  simp only[znm]at hr;subst hr;go_wp2;go_ret;exact⟨rfl,Q⟩
 |false=>
  simp only[znl]at hr;have HR:=zh2 hr Q;have q0:=(Q.cell (p:=⟨b,0,none⟩) hbl).trans q0;have Ay:b<w1:=znj hbl Q.size;clear hr Q m0 m1 A4;go_wp2_with fail;obtain⟨W2,K⟩:∃W2,W2=(w1.alloc (.cells cs 4)).alloc (.cells #[k0] 3):=⟨_,rfl⟩;have B2:Below W W W2:=by rw[K];exact(HR.o.2.alloc HR.o.2.size _).alloc (by have:=HR.o.2.size;simp;omega) _
  have s2:RowAt W2 4 (.slice (some ⟨w1,0,none⟩) n n) (List.replicate n false):=by rw[K];exact RowAt.frame (w:=w1.alloc (.cells cs 4)) (RowAt.made (znb w1 _) T.o.2.2.2.2.1 (by simp) (by unfold maxLen;omega)) (fun g h=>by cases h;exact zne _ _ _ (by simp))
  have t2:RowAt W2 3 (.slice (some ⟨w1.heap.size+1,0,none⟩) 1 1) [k0]:=by rw[K];exact RowAt.made yat rfl rfl (by decide)
  have l2:w1<W2.heap.size:=by rw[K];simp;omega
  rw[<-K];have H2:=zh4 B2 s2 t2 l2;clear K B2 s2 t2 l2 q0 Ay A3;go_loopg [6] (n+1) (fun gk v6 wr=>yp3 W w1.heap.size n Rc code k0 r gk v6 wr)
  case atStart=>
   refine⟨List.replicate n false,[k0],H2.o.2.1,H2.o.2.2.1,(fun g h=>by cases h;exact Nat.lt_succ_self _),⟨by simp,fun k hk=>by rw[List.mem_singleton.1 hk];exact T.o.2.2.2.1,by rw[ybR];simp⟩,?_,H2.o.1,H2.o.2.2.2,znc _⟩;have:=HR.o.1;rwa[<-T.o.2.2.2.2.2]at this
  case round=>
   obtain⟨N,todo,U,O,H,L,v,I,hl,Ae⟩:=hrel;obtain⟨ta,tc,rfl⟩:=O.slice;have Af:todo=[]\/∃k rr,todo=k::rr:=by cases todo<;>simp
   rcases Af with hto|⟨k,rr,hto⟩
   .have hr:false=r:=by
     cases gk with
     |zero=>exact v
     |succ f=>rw[hto,ydu]at v;exact v
    subst hr;subst hto;have J:=zhd I;clear U O H L v I hl Ae;go_wp2;go_ret;exact⟨rfl,J.o⟩
   .obtain⟨f,rfl⟩:∃f,gk=f+1:=⟨gk - 1,by have:=L.less;rw[hto]at this;simp at this;omega⟩
    rw[hto,ydu]at v;have hk0:todo[0]? =some k:=by rw[hto];rfl
    have Az:=L.td k (by rw[hto];exact zmf ..);obtain⟨An,Ad⟩:=T.o.2.2.1 k Az;obtain⟨c,s⟩:=yae An;have Av:=zmg s;obtain⟨tg,A9,rfl,Bf⟩:=O.addr hk0;have t0:=yd4 O hk0;rw[Nat.add_zero]at t0;have q:todo.length=rr.length+1:=by rw[hto];rfl
    obtain⟨Bm,cR,rT,oT⟩:=yew ykT O (k:=1) (by omega);rw[show((1:Nat):Int)=1 from rfl]at cR;rw[show todo.drop 1=rr from by rw[hto];rfl]at rT;have Ba:(0:Int)<todo.length:=by omega
    have I2:RI n f Rc N rr:=⟨L.len,fun j hj=>L.td j (by rw[hto];exact zme _ hj),by have:=L.less;rw[q]at this;omega⟩;have Ar:yas code k=followN c k:=by unfold yas;rw[s]
    rw[Ar]at v Ad;have FO:=zhd (ydh (T.o.1.keep (S:=fun _=>False) (zkb I) (fun _ _ f=>f)) k c s (T.o.2.1.a0 c Av) (by have:=T.o.2.1.len;omega));have Bi:=yem c k;generalize followN c k=fl at*;have q0:=(I.cell (p:=⟨b,0,none⟩) hbl).trans QQ.o;have A8:b<wr:=znj hbl I.size;have J:=zh8 v Ad I2 U rT (fun g G=>H g (oT g G)) I (zai hl Ae);clear v Ad I2 U rT H oT I hl Ae O L hto q Ar Av s An Az hk0;go_wp2_with fail;refine FO.o.mono ?_;rintro e w5 ⟨fv,rfl,E,Aq,Ai⟩;obtain⟨fa,fc,rfl⟩:=E.slice;obtain⟨R,hR⟩:∃R,yba code k0 fl N rr=R:=⟨_,rfl⟩;have A1:=J.o.2.2.2.2.2.2.1.trans (Ai.mono J.o.2.2.2.2.2.2.1.size);have d:=zh5 E Aq Ai hR A1;clear E Aq Ai hR FO A1;go_wp2_with fail;go_loopg [41,6] (fl.length) (fun gk v41 v6 wz=>yp4 W w1.heap.size n Rc code k0 f (.slice fa fl.length fc) fl R gk v41 v6 wz)
    case atStart=>
     exact⟨0,N,rr,rfl,znq _,rfl,J.o.2.2.2.1.below d.o.2.2.1,J.o.2.2.2.2.1.below d.o.2.2.1,fun g G=>⟨J.o.2.2.2.2.2.1 g G,fun e=>by have:=d.o.2.1 g e;have:=J.o.2.2.2.2.1.lt G;omega⟩,J.o.2.2.1,d.o.2.2.2.1,d.o.1,d.o.2.2.2.2⟩
    case round=>
     obtain⟨i,D,C,rfl,hi,Ap,U,O,H,L,A,E,I⟩:=hrel;by_cases hin:i<fl.length
     .obtain⟨y,hy⟩:=yae hin
      have At:fl.drop i=y::fl.drop (i+1):=by
       rw[znr (zge hy).1,(zge hy).2]
      rw[At,yba]at A;have Ah:=J.o.2.1 y (zmg hy);obtain⟨z,_⟩:=T.o.2.2.1 y Ah;obtain⟨fg,A0,rfl,Bj⟩:=E.addr hy;have z0:=yd4 E hy;have Bb:(i:Int)<fl.length:=by omega
      have Be:IntKind.i64.wrap ((i:Int)+1)=(i:Int)+1:=zmk _ (by omega);obtain⟨bx,X⟩:=yae (l:=D) (k:=y) (by rw[L.len,T.o.2.2.2.2.2];exact z);rw[List.getD_eq_getElem?_getD,X,Option.getD_some]at A;have s0:=ylE U X;rw[Nat.zero_add]at s0;have Aa:w1<wr.heap.size:=U.lt rfl;have Bd:(y:Int)<n:=by have:=T.o.2.2.2.2.2;omega
      obtain⟨c2,Ag⟩:=yae z;have q0:=(I.cell (p:=⟨b,0,none⟩) hbl).trans QQ.o;have A8:b<wr:=znj hbl I.size;obtain⟨_,_,A5,Bh,m0,m1⟩:=ydm (T.o.1.keep (S:=fun _=>False) (zkb I) (fun _ _ f=>f)) Ag;cases A5;have Al:yar code y=restsL c2:=by unfold yar;rw[Ag]
      rw[Al]at A;obtain⟨Aj,a2⟩:=c2;dsimp only at m0 m1;have RE:=zhd (yd5 Aj a2);generalize restsL ⟨Aj,a2⟩=rs at*;have B:=zh8 Ap U O H L E I (zai X Ah);clear Ap U O H L E I X Ah At hy Ag Al z;cases hyk:(y==k0)with
      |true=>
       have Ak:((y:Int)==(k0:Int))=true:=by
        rw[beq_iff_eq]at hyk|-;omega
       rw[hyk]at A;simp only[znm]at A;have hr:=J.o.1;rw[d.o.2.2.2.1,<-A]at hr;subst hr;clear hyk A;go_wp2;go_ret;exact⟨rfl,B.o.2.2.2.2.2.2.1⟩
      |false=>
       have Ak:((y:Int)==(k0:Int))=false:=by
        rw[zna]at hyk|-;omega
       rw[hyk]at A;simp only[znl]at A;clear hyk;cases bx with
       |true=>
        simp only[Bool.not_true,Bool.false_and,znl]at A;have M:=zhd A;clear A;go_wp2_with fail;go_roundg (fl.length - (i+1))
        case measure=>have:=B.o.1;omega
        case rel=>exact⟨i+1,D,C,by simp,by omega,rfl,B.o.2.1,B.o.2.2.1,B.o.2.2.2.1,B.o.2.2.2.2.1,M.o,B.o.2.2.2.2.2.1,B.o.2.2.2.2.2.2.1⟩
       |false=>
        go_wp2_with fail;refine(RE.o _).mono ?_;rintro e m ⟨rfl,Z⟩;have V:=zhd Z;have s0:=(Z.cell (p:=⟨w1,y,none⟩) Aa).trans s0;have Aa:w1<m.heap.size:=znj Aa Z.size;clear Z m0 m1 q0 z0;cases rs with
        |true=>
         simp only[Bool.not_true,Bool.not_false,Bool.true_and,znl]at A;have M:=zhd A;clear A;go_wp2_with fail;go_roundg (fl.length - (i+1))
         case measure=>have:=B.o.1;omega
         case rel=>exact⟨i+1,D,C,by simp,by omega,rfl,B.o.2.1.below V.o,B.o.2.2.1.below V.o,B.o.2.2.2.1,B.o.2.2.2.2.1,M.o,B.o.2.2.2.2.2.1.below V.o,B.o.2.2.2.2.2.2.1.trans (V.o.mono B.o.2.2.2.2.2.2.1.size)⟩
        |false=>
         simp only[Bool.not_false,Bool.and_self,znm]at A;have M:=zhd A;clear A;obtain⟨za,zc,rfl⟩:=B.o.2.2.1.slice;have Bg:C.length<=600:=by have:=B.o.2.2.2.2.1.less;have:=J.o.2.2.2.2.2.2.2.2;omega
         have S7:=(B.o.2.1.below V.o).setOne B.o.2.2.2.2.2.2.2.1 (y:=true) (j:=0) (u:=.bool true) (by decide) rfl;rw[show 0+(y*sz Bool+0)=y from by simp[Cells.sz]]at S7;have K8:Keeps (fun j=>j=w1) m (m.setCell ⟨w1,y,none⟩ (.bool true)):=Keeps.setCell (S:=fun j=>j=w1) (p:=⟨w1,y,none⟩) (Keeps.refl _ _) (.inl rfl) _;have T7:=(B.o.2.2.1.below V.o).keep K8 (fun g G e=>by have:=(B.o.2.2.2.1 g G).1;omega);have fz:∀o,m.frozen? ⟨w1,o,none⟩=false:=fun o=>(B.o.2.1.below V.o).frozen o;have AN:=zhd (show((m.setCell ⟨w1,y,none⟩ (.bool true)).alloc (.cells #[y] 3)).heap[m.heap.size]? =some (.cells (Cells.enc y).toArray 3 (0,0))from by
          have:=znb (m.setCell ⟨w1,y,none⟩ (.bool true)) (.cells #[y] 3);rwa[ycn]at this)
         have HA:=zh3 S7 T7 K8;clear S7 T7 K8;go_wp2_with (at_builtin;go_must (refine ybk (α:=Nat) ykT rfl (.tmp 67) (.tmp 69) rfl (HA.o.2.1.alloc _) y rfl rfl AN.o (by omega) (by unfold maxLen;omega) ?_);intro a1 q1 w8 Am Ao As;have H8:=zh3 Am Ao As;clear Am Ao As);go_roundg (fl.length - (i+1))
         case measure=>have:=B.o.1;omega
         case rel=>
          have A2:∀g,(Value.slice (some ⟨w1,0,none⟩) n n).ownBlock=some g->g=w1.heap.size:=fun g h=>(Option.some.inj h).symm;have Y:=B.o.2.2.2.1;have Bk:=HR.o.2.size;have A7:∀g,(Value.slice (some ⟨fg,A0,none⟩) fl.length fc).ownBlock=some g->g<wr.heap.size:=fun g h=>B.o.2.2.2.2.2.1.lt h;have A6:=d.o.2.1;have h7:=V.o.size;have Bl:=J.o.2.2.2.2.2.2.2.1;refine⟨i+1,D.set y true,C++[y],by simp,by omega,rfl,(HA.o.1.alloc _).keep H8.o.2.1 (fun g G e=> ?_),H8.o.1,fun g G=> ?_,B.o.2.2.2.2.1.see B.o.2.2.2.2.2.2.2.1 B.o.2.2.2.2.2.2.2.2,M.o,(((B.o.2.2.2.2.2.1.below V.o).keep HA.o.2.2 (fun g G e=> ?_)).alloc _).keep H8.o.2.1 (fun g G e=> ?_),?_⟩
          .have:=A2 g G
           have:=(Y g e).1;omega
          .rcases H8.o.2.2 g G with h|h
           .exact Y g h
           .have h9:m.heap.size+1<=g:=by simpa[ycn]using h
            exact⟨by omega,fun e=>by have:=A7 g e;omega⟩
          .have:=A6 g G
           omega
          .exact(Y g e).2 G
          .exact B.o.2.2.2.2.2.2.1.trans ((V.o.mono B.o.2.2.2.2.2.2.1.size).trans ((HA.o.2.2.below (by have:=B.o.2.2.2.2.2.2.1.size;omega) (fun j hj e=>by omega)).trans (((znv _ _).alloc (by have:=B.o.2.2.2.2.2.2.1.size;simp;omega) _).trans (H8.o.2.1.below (by have:=B.o.2.2.2.2.2.2.1.size;simp;omega) (fun j hj e=>by have:=(Y j e).1;omega)))))
     .obtain rfl:i=fl.length:=by omega
      rw[zns (znc _),yba]at A;have hr:=J.o.1;rw[d.o.2.2.2.1,<-A]at hr;have M:=zh6 hr U O H L I;clear hr A U O H L I E;go_wp2_with fail;go_roundg f
      case measure=>omega
      case rel=>exact⟨D,C,M.o.2.1,M.o.2.2.1,fun g G=>(M.o.2.2.2.1 g G).1,M.o.2.2.2.2.1,M.o.1,M.o.2.2.2.2.2,M.o.2.1.lt rfl,by have:=J.o.2.2.2.2.2.2.2.2;omega⟩
end Go.Proofs.YtpagmlndgblhhaaGreatDoor
namespace Go.Va
open Go.Own Go.RowKit
def spF (code:List In):Nat->Nat->Nat
 |0,_=>0
 |f+1,k=>bif yar code k then 1 else(yas code k).foldl (fun n x=>max n (spF code f x)) 0+1
def dnF (code:List In):Nat->Nat->Prop
 |0,_=>False
 |f+1,k=>yar code k=true\/∀x∈yas code k,dnF code f x
theorem yen {α β:Type}{g h:α->β->α}:∀(l:List β) (a:α),(∀x∈l,∀a,g a x=h a x)->l.foldl g a=l.foldl h a
 |[],_,_=>rfl
 |x::r,a,hx=>by
  rw[List.foldl_cons,List.foldl_cons,hx x (zmf ..)];exact yen r _ (fun y hy=>hx y (zme _ hy))
theorem yev {code:List In}:∀{f g k:Nat},dnF code f k->f<=g->dnF code g k/\spF code g k=spF code f k
 |0,_,_,h,_=>h.elim
 |f+1,0,_,_,hg=>by omega
 |f+1,g+1,k,h,hg=>by
  rw[dnF]at h;rw[dnF,spF,spF];cases hr:yar code k with
  |true=>exact⟨.inl rfl,rfl⟩
  |false=>
   have h:=h.resolve_left (fun e=>by rw[hr]at e;cases e);refine⟨.inr (fun x hx=>(yev (h x hx) (by omega:f<=g)).1),?_⟩;simp only[znl];rw[yen (h:=fun n x=>max n (spF code f x)) _ _ (fun x hx a=>by rw[(yev (h x hx) (by omega:f<=g)).2])]
theorem ynJ {code:List In}{f g k:Nat}(h:dnF code f k)(h':dnF code g k):spF code f k=spF code g k:=by
 rcases Nat.le_total f g with e|e
 .exact(yev h e).2.symm
 .exact(yev h' e).2
theorem ydw {g:Nat->Nat}{b:Nat}:∀(l:List Nat) (a:Nat),a<=b->(∀x∈l,g x<=b)->l.foldl (fun n x=>max n (g x)) a<=b
 |[],_,h,_=>h
 |x::r,a,h,hx=>by
  rw[List.foldl_cons];exact ydw r _ (by have:=hx x (zmf ..);omega) (fun y hy=>hx y (zme _ hy))
theorem yf1 (code:List In):∀f k:Nat,spF code f k<=f
 |0,_=>znc _
 |f+1,k=>by
  rw[spF];cases yar code k
  .simp only[znl]
   have:=ydw (g:=spF code f) (b:=f) (yas code k) 0 (by omega) (fun x _=>yf1 code f x);omega
  .simp
theorem yj0 {code:List In}{f k:Nat}(h:dnF code f k):0<spF code f k:=by
 cases f with
 |zero=>exact h.elim
 |succ f=>
  rw[spF];cases yar code k<;>simp
def KN (code:List In)(known:List Int):Prop:=∀(i:Nat) (v:Int),known[i]? =some v->0<=v/\(0<v->∃f,dnF code f i/\v=spF code f i)
theorem KN.set {code:List In}{known:List Int}(h:KN code known){f k:Nat}(hd:dnF code f k):KN code (known.set k (spF code f k)):=by
 intro i v hv;rw[List.getElem?_set]at hv;by_cases e:k=i
 .subst e
  simp only[if_pos]at hv;split at hv
  .cases hv
   exact⟨by omega,fun _=>⟨f,hd,rfl⟩⟩
  .cases hv
 .rw[if_neg e]at hv
  exact h i v hv
end Go.Va
namespace Go.Proofs.YtpagmlndgblhhaaGreatDoor
open Go.RowKit Go.Own Go.Own.MapTy Go.Va Go.Sort
open Go.Own.Cells (sz enc)
def yo1 (W:World)(kv:Value)(kb n:Nat)(code:List In)(r:Nat)(e:Ending)(w':World):Prop:=
 e= .returned (.int .i64 r)/\Hid (∃known,RowAt w' 3 kv known/\known.length=n/\KN code known/\Keeps (fun j=>j=kb) W w')
def yp1 (W:World)(kv:Value)(kb n:Nat)(code:List In)(f:Nat)(fv:Value)(fl:List Nat)(tot:Nat)(gk:Nat)(v35 v7:Value)(wr:World):Prop:=
 ∃(i m:Nat) (known:List Int),v35= .int .i64 i/\v7= .int .i64 m/\i<=fl.length/\gk=fl.length - i/\m<=f/\(fl.drop i).foldl (fun n x=>max n (spF code f x)) m=tot/\RowAt wr 3 kv known/\known.length=n/\KN code known/\Keeps (fun j=>j=kb) W wr/\RowAt wr 3 fv fl
theorem yly (b:Nat)(F:Nat->Prop)(ca:Option Addr)(n cc:Nat)(code:List In)(OK:CodeOk code)(Rc:Nat->Prop)(hcl:∀k,Rc k->k<code.length/\∀x∈yas code k,Rc x)(kb koff kc:Nat)(hkb:¬b=kb)(hF:∀j,F j->j≠kb):
  ∀(f k:Nat) (W:World) (known:List Int),f<=600->dnF code f k->Rc k->W.cell? ⟨b,0,none⟩=some (.slice ca n cc)->b<W->RdF F W (.slice ca n cc) code->RowAt W 3 (.slice (some ⟨kb,koff,none⟩) n kc) known->known.length=n->KN code known->
  Calls Tryz.prog 97 #[.pointer (some ⟨b,0,none⟩),k,.slice (some ⟨kb,koff,none⟩) n kc] W (yo1 W (.slice (some ⟨kb,koff,none⟩) n kc) kb n code (spF code f k)):=by
 intro f
 induction f with
 |zero=>exact fun _ _ _ _ h=>h.elim
 |succ f ih=>
  intro k W known hf t Am q0 P HC RK H D;have IH:=zhd ih;have Aa:=HC.elems.1;obtain⟨Ai,I⟩:=hcl k Am;obtain⟨c,z⟩:=yae Ai;have Af:=zmg z;obtain⟨g,At,rfl,hg,m0,m1⟩:=ydm HC z;obtain⟨v,hv⟩:=yae (l:=known) (k:=k) (by omega);have s0:=ydf RK hv;have J:kb<W.heap.size:=RK.lt rfl;have Ax:(k:Int)<n:=by omega
  have fz:∀o,W.frozen? ⟨kb,o,none⟩=false:=fun o=>RK.frozen o;have N:=zh7 HC RK H D t I Aa;have QQ:=zhd q0;have Q:=D k v hv;have O:yar code k=restsL c:=by unfold yar;rw[z]
  have L:yas code k=followN c k:=by unfold yas;rw[z]
  have Y:spF code (f+1) k=bif restsL c then 1 else(followN c k).foldl (fun n x=>max n (spF code f x)) 0+1:=by rw[spF,O,L]
  have d:restsL c=true\/∀x∈followN c k,dnF code f x:=by have:=t;rwa[dnF,O,L]at this
  rw[L]at I;have FO:=zhd (fun W' (K:Keeps (fun j=>j=kb) W W')=>ydh (HC.keep K (fun j hj e=>hF j hj e)) k c z (OK.a0 c Af) (by have:=OK.len;omega));have Ak:=yem c k;clear HC RK H D Aa Af ih;by_cases hv0:0<v
  .have G:v=((spF code (f+1) k:Nat):Int):=by
    obtain⟨f',h1,h2⟩:=Q.2 hv0;rw[h2,ynJ h1 t]
   have U:=zhd G;clear G Y d t Q I O L Ak;go_in;go_wp2;go_ret;exact⟨by rw[<-U.o];rfl,zhd ⟨known,N.o.2.1,N.o.2.2.1,N.o.2.2.2.1,Keeps.refl _ _⟩⟩
  .have An:=zh2 hv Q
   obtain⟨op,a⟩:=c;dsimp only at m0 m1;have RE:=zhd (yd5 op a);generalize restsL ⟨op,a⟩=rs at*;generalize followN ⟨op,a⟩ k=fl at*;have HD:=zh4 Y d I t;clear t Y d I O L hv Q z;go_in;go_wp2_with fail;refine(RE.o _).mono ?_;rintro e w1 ⟨rfl,E⟩;have K1:Keeps (fun j=>j=kb) W w1:=(zkb E (S:=fun _=>False)).mono (fun _ _ f=>f.elim);have s0:=(E.cell (p:=⟨kb,koff+k,none⟩) J).trans s0;have fz:∀o,w1.frozen? ⟨kb,o,none⟩=false:=fun o=>(N.o.2.1.below E).frozen o;have q0:=(E.cell (p:=⟨b,0,none⟩) P).trans q0;have Aq:b<w1:=znj P E.size;have Aj:kb<w1.heap.size:=znj J E.size;have H1:=zh2 E K1;clear E K1 m0 m1 RE;cases rs with
   |true=>
    have G:=HD.o.1;simp only[znm]at G;have KS:=(N.o.2.2.2.1).set HD.o.2.2.2;rw[G]at KS;have R:=(N.o.2.1.below H1.o.1).setOne An.o.1 (y:=1) (j:=0) (u:=.int .i64 1) (by decide) rfl;rw[show koff+(k*sz Int+0)=koff+k from by simp[Cells.sz]]at R;have U:=zh3 G KS R;clear G KS R;go_wp2;go_ret;refine⟨by rw[U.o.1];rfl,zhd ⟨_,U.o.2.2,by simpa using N.o.2.2.1,U.o.2.1,H1.o.2.trans (Keeps.setCell (S:=fun j=>j=kb) (p:=⟨kb,koff+k,none⟩) (Keeps.refl _ _) (.inl rfl) _) (fun j _ e=>e)⟩⟩
   |false=>
    have G:=HD.o.1;simp only[znl]at G;have Ad:=HD.o.2.1.resolve_left (by simp);have U:=zh2 G Ad;clear G Ad;go_wp2_with fail;refine(FO.o _ H1.o.2).mono ?_;rintro e w5 ⟨fv,rfl,B,Ac,q⟩;obtain⟨fa,fc,rfl⟩:=B.slice;obtain⟨tot,A⟩:∃tot,fl.foldl (fun n x=>max n (spF code f x)) 0=tot:=⟨_,rfl⟩;have K5:=H1.o.2.trans ((zkb q (S:=fun _=>False)).mono (T:=fun j=>j=kb) (fun _ _ f=>f.elim)) (fun j _ e=>e);have HF:=zh5 B Ac q A K5;clear B Ac q A FO K5;go_wp2_with fail;go_loopg [35,7] (fl.length) (fun gk v35 v7 wz=>yp1 W (.slice (some ⟨kb,koff,none⟩) n kc) kb n code f (.slice fa fl.length fc) fl tot gk v35 v7 wz)
    case atStart=>exact⟨0,0,known,rfl,rfl,znq _,rfl,znq _,HF.o.2.2.2.1,(N.o.2.1.below H1.o.1).below HF.o.2.2.1,N.o.2.2.1,N.o.2.2.2.1,HF.o.2.2.2.2,HF.o.1⟩
    case round=>
     obtain⟨i,m,kn,rfl,rfl,hi,Z,hm,A,hK,H,D,C,B⟩:=hrel;by_cases hin:i<fl.length
     .obtain⟨y,r⟩:=yae hin
      have Ae:fl.drop i=y::fl.drop (i+1):=by
       rw[znr (zge r).1,(zge r).2]
      rw[Ae,List.foldl_cons]at A;obtain⟨fg,Ar,rfl,Ay⟩:=B.addr r;have z0:=yd4 B r;have Ap:(i:Int)<fl.length:=by omega
      have Au:IntKind.i64.wrap ((i:Int)+1)=(i:Int)+1:=zmk _ (by omega);have V:=zmg r;have q0:=(C.cell (p:=⟨b,0,none⟩) P hkb).trans QQ.o;have Al:b<wr:=znj P C.size;have CS:=zhd (IH.o y wr kn (by omega) (U.o.2 y V) (HD.o.2.2.1 y V) q0 Al (N.o.1.keep C (fun j hj e=>hF j hj e)) hK H D);have Av:=yf1 code f y;generalize spF code f y=s at*;have M:=zh4 Z A C B;clear Z A C B Ae r V hK H D;go_wp2_with fail;refine CS.o.mono ?_;rintro e w7 ⟨rfl,H7⟩;have Ab:max (m:Int) (s:Int)=((max m s:Nat):Int):=by omega
      have HM:=zhd Ab;clear Ab;go_wp2_with fail;go_roundg (fl.length - (i+1))
      case measure=>have:=M.o.1;omega
      case rel=>
       obtain⟨Ag,h1,h2,h3,h4⟩:=H7.o;exact⟨i+1,max m s,Ag,by simp,by rw[<-HM.o],by omega,rfl,by omega,M.o.2.1,h1,h2,h3,M.o.2.2.1.trans h4 (fun j _ e=>e),M.o.2.2.2.keep h4 (fun j hj e=>by have:=HF.o.2.1 j hj;omega)⟩
     .obtain rfl:i=fl.length:=by omega
      rw[zns (znc _),List.foldl_nil]at A;subst A;have G:=U.o.1;rw[HF.o.2.2.2.1]at G;have KS:=D.set HD.o.2.2.2;rw[G]at KS;obtain⟨v',X⟩:=yae (l:=kn) (k:=k) (by omega);have As:=ydf hK X;have Az:∀o,wr.frozen? ⟨kb,o,none⟩=false:=fun o=>hK.frozen o;have Ao:kb<wr.heap.size:=znj J C.size;have R:=hK.setOne X (y:=((m+1:Nat):Int)) (j:=0) (u:=.int .i64 ((m+1:Nat):Int)) (by decide) rfl;rw[show koff+(k*sz Int+0)=koff+k from by simp[Cells.sz]]at R;have Ah:IntKind.i64.wrap ((m:Int)+1)=((m+1:Nat):Int):=by rw[zmk _ (by omega)];omega
      obtain⟨p,hp⟩:∃p,((m+1:Nat):Int)=p:=⟨_,rfl⟩;rw[hp]at R Ah KS;have M:=zh6 G KS R C H hp;clear G KS R C D H hp hK B Z X;go_wp2;go_ret;refine⟨by rw[M.o.1,M.o.2.2.2.2.2];rfl,zhd ⟨_,M.o.2.2.1,by simpa using M.o.2.2.2.2.1,M.o.2.1,M.o.2.2.2.1.trans (Keeps.setCell (S:=fun j=>j=kb) (p:=⟨kb,koff+k,none⟩) (Keeps.refl _ _) (.inl rfl) _) (fun j _ e=>e)⟩⟩
end Go.Proofs.YtpagmlndgblhhaaGreatDoor
namespace Go.Va
inductive Way (code:List In):Nat->Nat->Prop
 |one {p x:Nat}:yar code p=false->x∈yas code p->Way code p x
 |more {p k x:Nat}:Way code p k->yar code k=false->x∈yas code k->Way code p x
structure Rn (code:List In)(k0:Nat)(seen:List Bool)(todo:List Nat):Prop where
 td:∀k∈todo,k=k0\/seen[k]? =some true
 way:∀k,seen[k]? =some true->Way code k0 k/\yar code k=false
 ok:∀k,(k=k0\/seen[k]? =some true)->k∈todo\/∀x∈yas code k,x≠k0/\(yar code x=true\/seen[x]? =some true)
theorem ycM {code:List In}{k0 k:Nat}(hr:yar code k0=false)(hk:k=k0\/Way code k0 k)(hkr:yar code k=false):∀(l:List Nat) (seen:List Bool) (todo:List Nat),(∀x∈l,x∈yas code k)->(∀x∈l,x<seen.length)->
  (∀j∈todo,j=k0\/seen[j]? =some true)->(∀j:Nat,seen[j]? =some true->Way code k0 j/\yar code j=false)->(∀j:Nat,(j=k0\/seen[j]? =some true)->j=k\/j∈todo\/∀x∈yas code j,x≠k0/\(yar code x=true\/seen[x]? =some true))->
  match yba code k0 l seen todo with
  |none=>Way code k0 k0
  |some q=>q.1.length=seen.length/\(∀j∈q.2,j=k0\/q.1[j]? =some true)/\(∀j:Nat,q.1[j]? =some true->Way code k0 j/\yar code j=false)/\(∀j:Nat,(j=k0\/q.1[j]? =some true)->j=k\/j∈q.2\/∀x∈yas code j,x≠k0/\(yar code x=true\/q.1[x]? =some true))/\(∀x∈l,x≠k0/\(yar code x=true\/q.1[x]? =some true))/\(∀j:Nat,seen[j]? =some true->q.1[j]? =some true)
 |[],seen,todo,_,_,h1,h2,h3=>⟨rfl,h1,h2,h3,(fun x hx=>by cases hx),fun _ h=>h⟩
 |x::r,seen,todo,hl,hn,h1,h2,h3=>by
  have hxf:=hl x (zmf ..);have F:=hn x (zmf ..);have D:Way code k0 x:=by
   rcases hk with rfl|hk
   .exact .one hr hxf
   .exact .more hk hkr hxf
  rw[yba];cases hx0:(x==k0)with
  |true=>
   simp only[znm];rw[beq_iff_eq]at hx0;rw[<-hx0];rw[hx0]at D|-;exact D
  |false=>
   simp only[znl];rw[zna]at hx0;cases hs:(!(seen.getD x false)&& !(yar code x))with
   |true=>
    simp only[znm];rw[Bool.and_eq_true,Bool.not_eq_true',Bool.not_eq_true']at hs;have A:∀j,(seen.set x true)[j]? =some true↔j=x\/seen[j]? =some true:=fun j=>by
     rw[List.getElem?_set];by_cases e:x=j
     .subst e
      simp[F]
     .rw[if_neg e]
      exact⟨.inr,fun h=>h.resolve_left (fun h=>e h.symm)⟩
    have:=ycM hr hk hkr r (seen.set x true) (todo++[x]) (fun y B=>hl y (zme _ B)) (fun y B=>by rw[List.length_set];exact hn y (zme _ B))
     (fun j C=>by
       simp only[List.mem_append,List.mem_singleton]at C;rcases C with C|rfl
       .exact(h1 j C).imp id (fun h=>(A j).2 (.inr h))
       .exact .inr ((A j).2 (.inl rfl)))
     (fun j C=>by
       rcases(A j).1 C with rfl|C
       .exact⟨D,hs.2⟩
       .exact h2 j C)
     (fun j C=>by
       have E:j=x\/(j=k0\/seen[j]? =some true):=by
        rcases C with C|C
        .exact .inr (.inl C)
        .exact((A j).1 C).imp id .inr
       rcases E with rfl|E
       .exact .inr (.inl (by simp))
       .rcases h3 j E with h|h|h
        .exact .inl h
        .exact .inr (.inl (List.mem_append_left _ h))
        .exact .inr (.inr (fun y B=>⟨(h y B).1,(h y B).2.imp id (fun e=>(A y).2 (.inr e))⟩)))
    revert this;cases yba code k0 r (seen.set x true) (todo++[x])with
    |none=>exact id
    |some q=>
     rintro⟨L,K,J,I,H,G⟩;refine⟨by rw[L,List.length_set],K,J,I,fun y B=> ?_,fun j C=>G j ((A j).2 (.inr C))⟩;rcases List.mem_cons.1 B with rfl|B
     .exact⟨hx0,.inr (G y ((A y).2 (.inl rfl)))⟩
     .exact H y B
   |false=>
    simp only[znl];have:=ycM hr hk hkr r seen todo (fun y B=>hl y (zme _ B)) (fun y B=>hn y (zme _ B)) h1 h2 h3;revert this;cases yba code k0 r seen todo with
    |none=>exact id
    |some q=>
     rintro⟨L,K,J,I,H,G⟩;refine⟨L,K,J,I,fun y B=> ?_,G⟩;rcases List.mem_cons.1 B with rfl|B
     .refine⟨hx0,?_⟩
      cases hra:yar code y with
      |true=>exact .inl rfl
      |false=>
       rw[hra,Bool.not_false,Bool.and_true,Bool.not_eq_false']at hs;rw[List.getD_eq_getElem?_getD]at hs;refine .inr (G y ?_);rw[List.getElem?_eq_getElem F]at hs|-;simpa using hs
     .exact H y B
theorem ycf (code:List In)(k0:Nat):∀(l:List Nat) (seen:List Bool) (todo:List Nat) (q:List Bool×List Nat),(∀x∈l,x<seen.length)->yba code k0 l seen todo=some q->yel q.1+q.2.length<=yel seen+todo.length
 |[],seen,todo,q,_,h=>by
  rw[yba]at h;cases h;exact znc _
 |x::r,seen,todo,q,hl,h=>by
  rw[yba]at h;cases hx:(x==k0)with
  |true=>rw[hx]at h;cases h
  |false=>
   rw[hx]at h;simp only[znl]at h;cases hs:(!(seen.getD x false)&& !(yar code x))with
   |false=>
    rw[hs]at h;exact ycf code k0 r seen todo q (fun y hy=>hl y (zme _ hy)) h
   |true=>
    rw[hs]at h;have:=ycf code k0 r _ _ q (fun y hy=>by rw[List.length_set];exact hl y (zme _ hy)) h;simp only[znk,zmh]at this;rw[Bool.and_eq_true,Bool.not_eq_true']at hs;rw[List.getD_eq_getElem?_getD]at hs;have A:=hl x (zmf ..);have B:seen[x]? =some false:=by
     rw[List.getElem?_eq_getElem A]at hs|-;simpa using hs.1
    have:=yek seen x B;omega
theorem ye6 {code:List In}{k0:Nat}(hr:yar code k0=false)(hcl:∀k x,Way code k0 k\/k=k0->x∈yas code k->x<code.length):∀(f:Nat) (seen:List Bool) (todo:List Nat),seen.length=code.length->yel seen+todo.length<=f->Rn code k0 seen todo->(ydu code k0 f seen todo=true↔Way code k0 k0)
 |f,seen,[],hn,hf,R=>by
  have hne:¬Way code k0 k0:=by
   have I:∀k,Way code k0 k->k≠k0/\(yar code k=true\/seen[k]? =some true):=fun k h=>by
    generalize hp:k0=p at h
    induction h with
    |one h1 h2=>subst hp;exact(R.ok _ (.inl rfl)).resolve_left (by simp) _ h2
    |more h1 h2 h3 ih=>
     subst hp;have C:=ih;have:=C.2.resolve_left (by rw[h2];simp);exact(R.ok _ (.inr this)).resolve_left (by simp) _ h3
   exact fun h=>(I k0 h).1 rfl
  have hf:ydu code k0 f seen []=false:=by cases f<;>rfl
  rw[hf];simp[hne]
 |0,seen,k::r,hn,hf,R=>by simp at hf
 |f+1,seen,k::r,hn,hf,R=>by
  rw[ydu];have hk:=R.td k (zmf ..);have A:k=k0\/Way code k0 k:=hk.imp id (fun h=>(R.way k h).1);have B:yar code k=false:=by
   rcases hk with rfl|h
   .exact hr
   .exact(R.way k h).2
  have L:=ycM hr A B (yas code k) seen r (fun x hx=>hx) (fun x hx=>by rw[hn];exact hcl k x (A.symm) hx) (fun j hj=>R.td j (zme _ hj)) R.way (fun j hj=>by
   rcases R.ok j hj with h|h
   .rcases List.mem_cons.1 h with h|h
    .exact .inl h
    .exact .inr (.inl h)
   .exact .inr (.inr h))
  have LF:=ycf code k0 (yas code k) seen r;revert L LF;cases yba code k0 (yas code k) seen r with
  |none=>exact fun L _=>by simp[L]
  |some q=>
   rintro⟨H,G,F,E,D,J⟩ LF;refine ye6 hr hcl f q.1 q.2 (H.trans hn) ?_ ⟨G,F,fun j hj=> ?_⟩
   .have:=LF q (fun x hx=>by rw[hn];exact hcl k x (A.symm) hx) rfl
    simp only[List.length_cons]at hf;omega
   .rcases E j hj with rfl|h|h
    .exact .inr D
    .exact .inl h
    .exact .inr h
theorem yi5 {code:List In}{k0:Nat}(hcl:∀k x,Way code k0 k\/k=k0->x∈yas code k->x<code.length):roundL code k0=true↔yar code k0=false/\Way code k0 k0:=by
 unfold roundL;cases hr:yar code k0 with
 |true=>simp
 |false=>
  simp only[znl,true_and];refine ye6 hr hcl _ _ _ (by simp) (by rw[ybR];simp) ⟨fun k hk=>.inl (List.mem_singleton.1 hk),fun k hk=> ?_,fun k hk=> ?_⟩
  .rw[List.getElem?_replicate]at hk
   split at hk<;>cases hk
  .rcases hk with rfl|hk
   .exact .inl (by simp)
   .rw[List.getElem?_replicate]at hk
    split at hk<;>cases hk
theorem Way.rests {code:List In}{p k:Nat}(h:Way code p k):yar code p=false:=by
 induction h with
 |one h _=>exact h
 |more _ _ _ ih=>exact ih
theorem ygh:∀(n:Nat) (l:List Nat),l.Nodup->(∀x∈l,x<n)->l.length<=n
 |0,[],_,_=>znc _
 |0,x::_,_,h=>by have:=h x (zmf ..);omega
 |n+1,l,hd,h=>by
  have A:=ygh n (l.erase n) (hd.erase n) (fun x hx=>by
   have:=(hd.mem_erase_iff).1 hx;have:=h x this.2;omega)
  by_cases hm:n∈l
  .rw[List.length_erase_of_mem hm]at A
   omega
  .rw[List.erase_of_not_mem hm]at A
   omega
theorem ydx {code:List In}{Rc:Nat->Prop}(hcl:∀k,Rc k->k<code.length/\∀x∈yas code k,Rc x)(hno:∀k,Rc k->¬Way code k k):∀(f k:Nat) (P:List Nat),Rc k->P.Nodup->(∀p∈P,p<code.length/\Way code p k)->code.length+1<=P.length+f->dnF code f k
 |0,k,P,_,hd,hP,hl=>by
  have:=ygh _ P hd (fun p A=>(hP p A).1);omega
 |f+1,k,P,hk,hd,hP,hl=>by
  rw[dnF];cases hr:yar code k with
  |true=>exact .inl rfl
  |false=>
   refine .inr (fun x hx=>ydx hcl hno f x (k::P) ((hcl k hk).2 x hx) (List.nodup_cons.2 ⟨fun h=>hno k hk (hP k h).2,hd⟩) (fun p A=> ?_) (by simp only[List.length_cons];omega));rcases List.mem_cons.1 A with rfl|A
   .exact⟨(hcl _ hk).1,.one hr hx⟩
   .exact⟨(hP p A).1,.more (hP p A).2 hr hx⟩
theorem ymI {code:List In}{Rc:Nat->Prop}(hcl:∀k,Rc k->k<code.length/\∀x∈yas code k,Rc x)(hno:∀k,Rc k->roundL code k=false){k:Nat}(hk:Rc k):dnF code (code.length+1) k:=by
 have A:∀{a k},Rc a->Way code a k->Rc k:=fun{a k} ha h=>by
  induction h with
  |one _ h2=>exact(hcl _ ha).2 _ h2
  |more _ _ h3 ih=>exact(hcl _ ih).2 _ h3
 refine ydx hcl (fun j hj hw=> ?_) _ k [] hk List.nodup_nil (fun p hp=>by cases hp) (by simp);have:=(yi5 (fun k x h hx=>by
  have hk:Rc k:=h.elim (fun h=>A hj h) (fun h=>by rw[h];exact hj);exact(hcl _ ((hcl _ hk).2 _ hx)).1)).2 ⟨hw.rests,hw⟩
 rw[hno j hj]at this;cases this
end Go.Va
