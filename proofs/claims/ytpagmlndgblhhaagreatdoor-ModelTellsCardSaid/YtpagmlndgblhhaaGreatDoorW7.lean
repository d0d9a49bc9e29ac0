/- Parts of the proof: what the functions and the plain laws give that later parts lean on. Conditions: none beyond those that each theorem names. -/
import Derived.Test.YtpagmlndgblhhaaGreatDoorW6
set_option maxRecDepth 100000
set_option maxHeartbeats 8000000
namespace Go.Va
def DoneAt (code:List In)(hs:List Int)(most:Int)(k:Nat)(h:Int):Prop:=
 ∃c,code[k]? =some c/\0<=h - yaB c/\h - yaB c+(ofL c.op).1.o<=32/\h - yaB c+(ofL c.op).1.o<=most/\∀x∈followN c k,x<code.length/\hs[x]? =some (h - yaB c+(ofL c.op).1.o)
structure Gr (st st':KSt):Prop where
 keep:∀(j:Nat) (y:Int),st.heights[j]? =some y->0<=y->st'.heights[j]? =some y
 most:st.most<=st'.most
 len:st'.heights.length=st.heights.length
 td:∀j∈st.todo,j∈st'.todo
 new:∀(j:Nat) (y:Int),st'.heights[j]? =some y->0<=y->st.heights[j]? =some y\/j∈st'.todo
theorem Gr.refl (st:KSt):Gr st st:=⟨fun _ _ h _=>h,Int.le_refl _,rfl,fun _ h=>h,fun _ _ h _=>.inl h⟩
theorem Gr.trans {a b c:KSt}(h:Gr a b)(g:Gr b c):Gr a c:=
 ⟨fun j y e l=>g.keep j y (h.keep j y e l) l,Int.le_trans h.most g.most,g.len.trans h.len,fun j hj=>g.td j (h.td j hj),fun j y e l=>by
   rcases g.new j y e l with B|B
   .rcases h.new j y B l with A|A
    .exact .inl A
    .exact .inr (g.td j A)
   .exact .inr B⟩
theorem DoneAt.grow {code:List In}{st st':KSt}(OK:CodeOk code)(g:Gr st st'){k:Nat}{h:Int}(d:DoneAt code st.heights st.most k h):DoneAt code st'.heights st'.most k h:=by
 obtain⟨c,B,E,D,C,A⟩:=d;have F:=(OK.o c (zmg B)).1;exact⟨c,B,E,D,Int.le_trans C g.most,fun x hx=>⟨(A x hx).1,g.keep x _ (A x hx).2 (by omega)⟩⟩
theorem yiF {n k:Nat}{h:Int}{st:KSt}(hn:st.heights.length=n)(h0:0<=h):Gr st (comeL n k h st).2/\((comeL n k h st).1=0->k<n/\(comeL n k h st).2.heights[k]? =some h)/\((comeL n k h st).1=0\/(comeL n k h st).1=131\/(comeL n k h st).1=132):=by
 unfold comeL;by_cases hk:n<=k
 .rw[zno hk]
  simp only[znm];exact⟨Gr.refl _,fun e=>by simp at e,by simp⟩
 .rw[znd hk]
  simp only[znl];obtain⟨x,B⟩:∃x,st.heights[k]? =some x:=⟨st.heights[k]'(by omega),by simp⟩;rw[List.getD_eq_getElem?_getD,B,Option.getD_some];by_cases hl:x<0
  .rw[zno hl]
   simp only[znm];have C:(st.heights.set k h)[k]? =some h:=List.getElem?_set_self (by omega);refine⟨⟨fun j y e l=> ?_,Int.le_refl _,by simp,fun j hj=>List.mem_append_left _ hj,fun j y e l=> ?_⟩,fun _=>⟨by omega,C⟩,by simp⟩
   .show(st.heights.set k h)[j]? =some y
    rw[List.getElem?_set_ne]
    .exact e
    .intro A
     subst A;rw[B]at e;cases e;omega
   .by_cases A:k=j
    .subst A
     exact .inr (by simp)
    .left
     have e:(st.heights.set k h)[j]? =some y:=e;rwa[List.getElem?_set_ne A]at e
  .rw[znd hl]
   simp only[znl];cases hxh:(x !=h)with
   |true=>exact⟨Gr.refl _,fun e=>by simp at e,by simp⟩
   |false=>
    have:x=h:=by simpa using hxh
    subst this;exact⟨Gr.refl _,fun _=>⟨by omega,B⟩,by simp⟩
theorem ygB {n:Nat}{h:Int}(h0:0<=h):∀(l:List Nat) {st:KSt},st.heights.length=n->Gr st (ybY n h l st).2/\((ybY n h l st).1=0->∀x∈l,x<n/\(ybY n h l st).2.heights[x]? =some h)/\((ybY n h l st).1=0\/(ybY n h l st).1=131\/(ybY n h l st).1=132)
 |[],st,_=>⟨Gr.refl _,(fun _ x hx=>by cases hx),.inl rfl⟩
 |x::r,st,hn=>by
  obtain⟨g,hg,hc⟩:=yiF (k:=x) hn h0;rw[ybY];cases hz:((comeL n x h st).1 !=0)with
  |true=>
   simp only[znm];exact⟨g,fun e=>by rw[e]at hz;simp at hz,hc⟩
  |false=>
   simp only[znl];have A:(comeL n x h st).1=0:=by simpa using hz
   obtain⟨E,C,D⟩:=ygB h0 r (st:=(comeL n x h st).2) (g.len.trans hn);refine⟨g.trans E,fun e y B=> ?_,D⟩;rcases List.mem_cons.1 B with rfl|B
   .exact⟨(hg A).1,E.keep _ _ (hg A).2 h0⟩
   .exact C e y B
theorem ylw {code:List In}{c:In}{k:Nat}{h:Int}{st:KSt}(OK:CodeOk code)(hc:code[k]? =some c)(hn:st.heights.length=code.length)(hh:st.heights[k]? =some h):
  Gr st (stepL code.length c k st).2/\((stepL code.length c k st).1=0->DoneAt code (stepL code.length c k st).2.heights (stepL code.length c k st).2.most k h)/\((stepL code.length c k st).1=0\/(stepL code.length c k st).1=131\/(stepL code.length c k st).1=132):=by
 have D:=(OK.o c (zmg hc)).1;unfold stepL;rw[List.getD_eq_getElem?_getD,hh,Option.getD_some];by_cases h1:h - yaB c<0
 .rw[zno h1]
  exact⟨Gr.refl _,fun e=>by simp at e,by simp⟩
 .rw[znd h1]
  simp only[znl];by_cases h2:32<h - yaB c+(ofL c.op).1.o
  .rw[zno h2]
   exact⟨Gr.refl _,fun e=>by simp at e,by simp⟩
  .rw[znd h2]
   simp only[znl];obtain⟨m,hm⟩:∃m,h - yaB c+(ofL c.op).1.o=m:=⟨_,rfl⟩;rw[hm]at h2|-;have C:Gr st {st with most:=max st.most m}:=⟨fun _ _ h _=>h,by show st.most<=max st.most m;omega,rfl,fun _ h=>h,fun _ _ h _=>.inl h⟩;obtain⟨g,B,A⟩:=ygB (n:=code.length) (h:=m) (by omega) (followN c k) (st:={st with most:=max st.most m}) hn;refine⟨C.trans g,fun e=>⟨c,hc,by omega,by omega,?_,?_⟩,A⟩
   .rw[hm]
    have:=g.most;have:max st.most m<=_:=this;omega
   .rw[hm]
    exact B e
theorem yiJ {code:List In}(OK:CodeOk code):∀(f:Nat) (st:KSt),Inv code.length f st->(∀(k:Nat) (h:Int),st.heights[k]? =some h->0<=h->k∈st.todo\/DoneAt code st.heights st.most k h)->
  ((yiK code f st).1.2=0->(yiK code f st).1.1= -1/\(∀(k:Nat) (h:Int),(yiK code f st).2.heights[k]? =some h->0<=h->DoneAt code (yiK code f st).2.heights (yiK code f st).2.most k h)/\(∀(j:Nat) (y:Int),st.heights[j]? =some y->0<=y->(yiK code f st).2.heights[j]? =some y)/\Inv code.length code.length (yiK code f st).2)
 |0,st,I,D=>by
  have ht:st.todo=[]:=by
   have:=I.less;exact List.eq_nil_of_length_eq_zero (by omega)
  rw[yiK];refine fun _=>⟨rfl,fun k h e l=> ?_,fun _ _ h _=>h,⟨I.len,I.all,I.todo,by have:=I.less;show yjj st.heights+st.todo.length<=_;omega,I.m0,I.m1⟩⟩;have:=D k h e l;rw[ht]at this;exact this.resolve_left (by simp)
 |f+1,st,I,D=>by
  rw[yiK];cases ht:st.todo with
  |nil=>
   refine fun _=>⟨rfl,fun k h e l=> ?_,fun _ _ h _=>h,⟨I.len,I.all,I.todo,?_,I.m0,I.m1⟩⟩
   .have:=D k h e l
    rw[ht]at this;exact this.resolve_left (by simp)
   .have:∀l:List Int,yjj l<=l.length:=fun l=>by
     induction l with
     |nil=>exact znc _
     |cons x r ih=>rw[yjj,List.length_cons];cases decide (x<0)<;>simp<;>omega
    have:=this st.heights;have:=I.len;rw[ht];simp only[List.length_nil];omega
  |cons k r=>
   obtain⟨h,G,R⟩:=I.todo k (by rw[ht];exact zmf ..);have F:k<code.length:=by have:=(zge G).1;have:=I.len;omega
   have B:code[k]? =some code[k]:=List.getElem?_eq_getElem F;generalize code[k]=c at B;dsimp only;rw[B];dsimp only;have J:=OK.o c (zmg B);obtain⟨g,K,L⟩:=ylw (c:=c) (st:={st with todo:=r}) OK B I.len G;have Q:Inv code.length f (stepL code.length c k {st with todo:=r}).2:=yf0 (k:=k) (c:=c) (f:=f) ⟨I.len,I.all,fun j hj=>I.todo j (by rw[ht];exact zme _ hj),by have:=I.less;rw[ht]at this;simp only[List.length_cons]at this;show yjj st.heights+r.length<=f;omega,I.m0,I.m1⟩ J.1;cases hz:((stepL code.length c k {st with todo:=r}).1 !=0)with
   |true=>
    simp only[znm];exact fun e=>by rw[e]at hz;simp at hz
   |false=>
    simp only[znl];have E:(stepL code.length c k {st with todo:=r}).1=0:=by simpa using hz
    intro e;obtain⟨P,O,N,M⟩:=yiJ OK f _ Q (fun j y e l=>by
     rcases g.new j y e l with A|A
     .by_cases hjk:j=k
      .subst hjk
       rw[G]at A;cases A;exact .inr (K E)
      .rcases D j y A l with C|C
       .rw[ht]at C
        rcases List.mem_cons.1 C with H|H
        .exact absurd H hjk
        .exact .inl (g.td j H)
       .exact .inr (DoneAt.grow OK (st:={st with todo:=r}) g C)
     .exact .inl A) e
    exact⟨P,O,fun j y e l=>N j y (g.keep j y e l) l,M⟩
structure Walked (code:List In)(st:KSt):Prop where
 inv:Inv code.length code.length st
 zero:st.heights[0]? =some 0
 done:∀(k:Nat) (h:Int),st.heights[k]? =some h->0<=h->DoneAt code st.heights st.most k h
theorem yfX {code:List In}(OK:CodeOk code)(h:(walkL code).1.2=0):(walkL code).1.1= -1/\Walked code (walkL code).2:=by
 unfold walkL at h|-;dsimp only at h|-;have I:=yex (n:=code.length) (f:=code.length) (k:=0) (h:=0) (st:=⟨List.replicate code.length (-1),[],0⟩) ⟨by simp,(fun x hx=>by rw[(List.mem_replicate.1 hx).2];omega),(fun k hk=>by cases hk),(by rw[yb2];simp),Int.le_refl 0,(by show(0:Int)<=32;decide)⟩ (by decide) (by decide);obtain⟨g,C,H⟩:=yiF (n:=code.length) (k:=0) (h:=0) (st:=⟨List.replicate code.length (-1),[],0⟩) (by simp) (by decide);generalize comeL code.length 0 0 ⟨List.replicate code.length (-1),[],0⟩=q at*;cases hz:(q.1 !=0)with
 |true=>
  rw[hz]at h;simp only[znm]at h;rw[h]at hz;simp at hz
 |false=>
  rw[hz]at h;simp only[znl]at h|-;have B:q.1=0:=by simpa using hz
  obtain⟨G,F,E,D⟩:=yiJ OK (code.length+1) q.2 ⟨I.len,I.all,I.todo,by have:=I.less;omega,I.m0,I.m1⟩ (fun k y e l=>by
   rcases g.new k y e l with A|A
   .simp only[List.getElem?_replicate]at A
    split at A
    .cases A
     omega
    .cases A
   .exact .inl A) h
  exact⟨G,D,E 0 0 (C B).2 (Int.le_refl _),F⟩
theorem Walked.closed {code:List In}{st:KSt}(w:Walked code st)(OK:CodeOk code):∀k,(∃h,st.heights[k]? =some h/\0<=h)->k<code.length/\∀x∈yas code k,∃h,st.heights[x]? =some h/\0<=h:=by
 rintro k ⟨h,B,D⟩;obtain⟨c,A,H,G,F,C⟩:=w.done k h B D;have E:=(OK.o c (zmg A)).1;refine⟨(zge A).1,fun x hx=> ?_⟩;unfold yas at hx;rw[A]at hx;exact⟨_,(C x hx).2,by omega⟩
def ycI (code:List In):Nat->List Int->Option Nat
 |_,[]=>none
 |k,h::r=>bif decide (0<=h)&&roundL code k then some k else ycI code (k+1) r
theorem ycP {code:List In}:∀(l:List Int) (k:Nat),ycI code k l=none->∀(j:Nat) (h:Int),l[j]? =some h->0<=h->roundL code (k+j)=false
 |[],_,_,j,h,hj,_=>by simp at hj
 |y::r,k,hn,j,h,hj,h0=>by
  rw[ycI]at hn;cases hc:(decide (0<=y)&&roundL code k)with
  |true=>rw[hc]at hn;cases hn
  |false=>
   rw[hc]at hn;cases j with
   |zero=>
    simp at hj;subst hj;rw[zno h0]at hc;simpa using hc
   |succ j=>
    have:=ycP r (k+1) hn j h (by simpa using hj) h0;rwa[show k+1+j=k+(j+1) by omega]at this
def ycL (code:List In):Nat->List Int->Nat->Nat
 |_,[],m=>m
 |k,h::r,m=>ycL code (k+1) r (bif decide (0<=h)then max m (spF code (code.length+1) k)else m)
structure Fa where
 heights:List Int
 most:Int
 span:Int
def yor:Fa:=⟨[],0,0⟩
theorem ycB (op:Int):0<=(ofL op).1.i/\(ofL op).1.i<=2/\0<=(ofL op).1.o/\(ofL op).1.o<=2:=by
 by_cases h:0<=op/\op<=32
 .obtain⟨k,rfl⟩:∃k:Nat,op=k:=⟨op.toNat,by omega⟩
  have H:∀k:Fin 33,0<=(ofL (k.1:Int)).1.i/\(ofL (k.1:Int)).1.i<=2/\0<=(ofL (k.1:Int)).1.o/\(ofL (k.1:Int)).1.o<=2:=by decide+kernel
  exact H ⟨k,by omega⟩
 .have e:∀j:Int,0<=j->j<=32->(op==j)=false:=fun j h1 h2=>by rw[zna];omega
  simp only[ofL,ycG,e 0 (by decide) (by decide),e 1 (by decide) (by decide),e 2 (by decide) (by decide),e 3 (by decide) (by decide),e 4 (by decide) (by decide),e 5 (by decide) (by decide),e 6 (by decide) (by decide),e 7 (by decide) (by decide),e 8 (by decide) (by decide),e 9 (by decide) (by decide),e 10 (by decide) (by decide),e 11 (by decide) (by decide),e 12 (by decide) (by decide),e 13 (by decide) (by decide),e 14 (by decide) (by decide),e 15 (by decide) (by decide),e 16 (by decide) (by decide),e 17 (by decide) (by decide),e 18 (by decide) (by decide),e 19 (by decide) (by decide),e 20 (by decide) (by decide),e 21 (by decide) (by decide),e 22 (by decide) (by decide),e 23 (by decide) (by decide),e 24 (by decide) (by decide),e 25 (by decide) (by decide),e 26 (by decide) (by decide),e 27 (by decide) (by decide),e 28 (by decide) (by decide),e 29 (by decide) (by decide),e 30 (by decide) (by decide),e 31 (by decide) (by decide),e 32 (by decide) (by decide),znl];decide
end Go.Va
namespace Go.Proofs.YtpagmlndgblhhaaGreatDoor
open Go.RowKit Go.Own Go.Own.MapTy Go.Va Go.Sort
open Go.Own.Cells (sz enc)
def yaN (p:Img):Fa×Int×Int:=
 bif imgL p !=0 then(yor,-1,imgL p)else
 bif (walkL p.code).1.2 !=0 then(yor,(walkL p.code).1)else
 match ycI p.code 0 (walkL p.code).2.heights with
 |some k=>(yor,(k:Int),133)
 |none=>(⟨(walkL p.code).2.heights,(walkL p.code).2.most,(ycL p.code 0 (walkL p.code).2.heights 0:Nat)⟩,-1,0)
theorem ym8 {op:Int}(h:(op==29)=true):(ofL op).1.operand=5:=by
 rw[beq_iff_eq]at h;subst h;rfl
theorem yey {p:Img}(h:imgL p=0):CodeOk p.code:=by
 obtain⟨I,B,H,G,F,E,_,_,A⟩:=ybE h;refine⟨B,fun c hc=>(A c hc).2.1,fun c hc=> ?_,fun c hc=>⟨(ycB c.op).2.2.1,(ycB c.op).2.2.2⟩⟩;have C:=ycB c.op;obtain⟨_,D,hm⟩:=A c hc;unfold yaB;cases h29:(c.op==29)with
 |false=>simp only[znl];omega
 |true=>
  rw[ym8 h29]at hm;have:mostL p 5=17:=rfl;simp only[znm];omega
end Go.Proofs.YtpagmlndgblhhaaGreatDoor
namespace Go.Own
open Go.RowKit
theorem yfz {P:Program}{t e:TypeId}{i:TypeInfo}(ht:P.underlying t=some (.slice e))(hi:P.info? e=some i)(hz:i.zero=some (.int .i64 0))(hs:i.size=1)(hb:i.bytes=8)(n:Nat)(hn:n<=17592186044416):
  ∃cs:Array Value,(∀W:World,(Instr.makeSlice t (.int .i64 n) (.int .i64 n)).run P W= .ok (.slice (some ⟨W,0,none⟩) n n) (W.alloc (.cells cs e)))/\cs.toList=(List.replicate n (0:Int)).flatMap Cells.enc:=by
 refine⟨madeCells (Value.int .i64 0).cells (n*i.size),fun W=> ?_,?_⟩
 .have:=run_make (P:=P) W t e i (.int .i64 0) ht hi hz .i64 .i64 n n (by omega) (by omega) (by rw[hb];omega) (by omega)
  simpa using this
 .rw[yix,hs]
  simp only[Nat.mul_one,Value.cells,List.map_replicate];exact toList_madeCells_one _ _
end Go.Own
namespace Go.Proofs.YtpagmlndgblhhaaGreatDoor
open Go.RowKit Go.Own Go.Own.MapTy Go.Va Go.Sort
open Go.Own.Cells (sz enc)
theorem ynx:(Tryz.prog.info? 3).map (fun i=>(i.zero,i.size,i.bytes))=some (some (.int .i64 0),1,8):=by kernel_rfl
def ypf (W:World)(r:Fa×Int×Int)(e:Ending)(w':World):Prop:=
 ∃v:Value,e= .returned (.tuple #[.agg #[v,.int .i64 r.1.most,.int .i64 r.1.span],.agg #[.int .i64 r.2.1,.int .i64 r.2.2]])/\Hid (RowAt w' 3 v r.1.heights/\(∀g,v.ownBlock=some g->W.heap.size<=g)/\Below W W w')
theorem ycC (w':World)(b1 b2 o1 o2 o3 o5 o6:Nat)(v1 v2 v3 v5 v6:Value):
  Keeps (fun j=>j=b1\/j=b2) w' (((((w'.setCell ⟨b1,o1,none⟩ v1).setCell ⟨b1,o2,none⟩ v2).setCell ⟨b1,o3,none⟩ v3).setCell ⟨b2,o5,none⟩ v5).setCell ⟨b2,o6,none⟩ v6):=by
 have E:Keeps (fun j=>j=b1\/j=b2) w' w':=Keeps.refl _ _;have D:=Keeps.setCell (p:=⟨b1,o1,none⟩) E (.inl (.inl rfl)) v1;have C:=Keeps.setCell (p:=⟨b1,o2,none⟩) D (.inl (.inl rfl)) v2;have B:=Keeps.setCell (p:=⟨b1,o3,none⟩) C (.inl (.inl rfl)) v3;have A:=Keeps.setCell (p:=⟨b2,o5,none⟩) B (.inl (.inr rfl)) v5;exact Keeps.setCell (p:=⟨b2,o6,none⟩) A (.inl (.inr rfl)) v6
structure Res (W w1:World):Prop where
 c0:w1.cell? ⟨W.heap.size+1,0,none⟩=some (.slice none 0 0)
 c1:w1.cell? ⟨W.heap.size+1,1,none⟩=some (.int .i64 0)
 c2:w1.cell? ⟨W.heap.size+1,2,none⟩=some (.int .i64 0)
 c3:w1.cell? ⟨W.heap.size+1+1,0,none⟩=some (.int .i64 0)
 c4:w1.cell? ⟨W.heap.size+1+1,1,none⟩=some (.int .i64 0)
 f0:∀o,w1.frozen? ⟨W.heap.size+1,o,none⟩=false
 f1:∀o,w1.frozen? ⟨W.heap.size+1+1,o,none⟩=false
 l:W.heap.size+1+1<w1.heap.size
theorem Res.keep {S:Nat->Prop}{W w1 w2:World}(R:Res W w1)(K:Keeps S w1 w2)(h1:¬S (W.heap.size+1))(h2:¬S (W.heap.size+1+1)):Res W w2:=by
 have l:=R.l;have A:W.heap.size+1<w1.heap.size:=by omega
 exact⟨(K.cell (p:=⟨W.heap.size+1,0,none⟩) A h1).trans R.c0,(K.cell (p:=⟨W.heap.size+1,1,none⟩) A h1).trans R.c1,(K.cell (p:=⟨W.heap.size+1,2,none⟩) A h1).trans R.c2,(K.cell (p:=⟨W.heap.size+1+1,0,none⟩) l h2).trans R.c3,(K.cell (p:=⟨W.heap.size+1+1,1,none⟩) l h2).trans R.c4,fun o=>(K.frozen (p:=⟨W.heap.size+1,o,none⟩) A h1).trans (R.f0 o),fun o=>(K.frozen (p:=⟨W.heap.size+1+1,o,none⟩) l h2).trans (R.f1 o),znj l K.size⟩
def yp2 (W9:World)(fb kb2 n:Nat)(code:List In)(hv:Value)(mo:Int)(hs:List Int)(gk:Nat)(v72:Value)(wz:World):Prop:=
 ∃(i m:Nat) (known:List Int),v72= .int .i64 i/\i<=hs.length/\gk=hs.length - i/\m<=600/\ycL code i (hs.drop i) m=ycL code 0 hs 0/\wz.heap[fb]? =some (.cells #[hv,mo,m] 110 (0,0))/\RowAt wz 3 (.slice (some ⟨kb2,0,none⟩) n n) known/\known.length=n/\KN code known/\Keeps (fun j=>j=fb\/j=kb2) W9 wz
theorem KN.zero (code:List In)(n:Nat):KN code (List.replicate n 0):=fun i v h=>by
 rw[List.getElem?_replicate]at h;split at h
 .cases h
  exact⟨Int.le_refl _,fun h=>absurd h (by decide)⟩
 .cases h
theorem ylA {w:World}{fb:Nat}{hv:Value}{mo m:Int}{T:TypeId}(h:w.heap[fb]? =some (.cells #[hv,mo,m] T (0,0)))(k:Int):(w.setCell ⟨fb,2,none⟩ (.int .i64 k)).heap[fb]? =some (.cells #[hv,mo,k] T (0,0)):=by
 simp[World.setCell,zni,h]
theorem yeY (F:Nat->Prop)(i:IC)(p:Img)(W:World)(H:IAt F W i p)(hw:∀x∈p.consts,x.wf)(r:Fa×Int×Int)(hr:yaN p=r):
  Calls Tryz.prog 51 #[.agg #[.slice i.ca i.cn i.cc,.slice i.ka i.kn i.kc,.slice i.na i.nn i.nc,i.pl]] W (ypf W r):=by
 have HI:=zhd (H.mono (G:=fun j=>j<W) (fun g _ hl=>hl));have Aa:=H.lens.1;unfold yaN at hr;have A2:= @yey p;have As:=zhd (fun W' (K:Below W W W')=>yct F W' i p (H.keep (S:=fun _=>False) (zkb K) (fun _ _ f=>f)) _ hw rfl);generalize imgL p=ie at*;obtain⟨ca,cn,cc,ka,kn,kc,na,nn,nc,pl⟩:=i;dsimp only at Aa As HI;dsimp only;clear H;have HR:=zh3 hr A2 Aa;clear hr A2 Aa;go_in;go_wp2_with fail;obtain⟨W3,U⟩:∃W3,W3=((W.alloc (.cells #[.slice ca cn cc,.slice ka kn kc,.slice na nn nc,pl] 28)).alloc (.cells #[.slice none 0 0,.int .i64 0,.int .i64 0] 110)).alloc (.cells #[.int .i64 0,.int .i64 0] 112):=⟨_,rfl⟩;have B3:Below W W W3:=by rw[U];exact((zal).alloc (by simp) _).alloc (by simp;omega) _
 have b0:W3.heap[W.heap.size]? =some (.cells #[.slice ca cn cc,.slice ka kn kc,.slice na nn nc,pl] 28 (0,0)):=by
  rw[U];exact(zne _ _ _ (by simp;omega)).trans ((zne _ _ _ (by simp)).trans (znb W _))
 have b1:W3.heap[W.heap.size+1]? =some (.cells #[.slice none 0 0,.int .i64 0,.int .i64 0] 110 (0,0)):=by
  rw[U];exact(zne _ _ _ (by simp)).trans yat
 have b2:W3.heap[W.heap.size+1+1]? =some (.cells #[.int .i64 0,.int .i64 0] 112 (0,0)):=by
  rw[U];have:=znb ((W.alloc (.cells #[.slice ca cn cc,.slice ka kn kc,.slice na nn nc,pl] 28)).alloc (.cells #[.slice none 0 0,.int .i64 0,.int .i64 0] 110)) (.cells #[.int .i64 0,.int .i64 0] 112);simpa using this
 have Al:W3.heap.size=W.heap.size+3:=by rw[U];simp
 have R3:Res W W3:=⟨by rw[zch b1];rfl,by rw[zch b1];rfl,by rw[zch b1];rfl,by rw[zch b2];rfl,by rw[zch b2];rfl,fun o=>zfr b1 o,fun o=>zfr b2 o,by omega⟩;rw[<-U];have H3:=zh4 B3 R3 b0 Al;clear U B3 R3 b0 b1 b2 Al;refine(As.o _ H3.o.1).mono ?_;rintro e M ⟨rfl,Af⟩;have Bb:=H3.o.2.1.keep (zkb Af (S:=fun _=>False)) (fun f=>f) (fun f=>f);have B4:=H3.o.1.trans (Af.mono H3.o.1.size);have b0:=(Af.block W (by have:=H3.o.2.2.2;omega)).trans H3.o.2.2.1;have H4:=zh4 Af Bb B4 b0;have q0:=zca b0 0 rfl;have l0:W<M.heap.size:=zlt b0;clear Af Bb B4 b0 As;cases hz:(ie !=0)with
 |true=>
  have hr:=HR.o.1;rw[hz]at hr;simp only[znm]at hr;subst hr;obtain⟨c0,c1,c2,c3,c4,f0,f1,l2⟩:=H4.o.2.1;have l1:W.heap.size+1<M.heap.size:=by omega
  have BB:=zhd (H4.o.2.2.1.trans ((ycC M (W.heap.size+1) (W.heap.size+1+1) 0 1 2 0 1 (.slice none 0 0) (.int .i64 0) (.int .i64 0) (.int .i64 (-1)) (.int .i64 ie)).below (by omega) (fun j hj e=>by omega)));go_wp2_with fail;exact zng (v:=.tuple #[.agg #[.slice none 0 0,.int .i64 0,.int .i64 0],.agg #[.int .i64 (-1),ie]]) (by simp only[results,Tryz.results51];go_simp) rfl ⟨.slice none 0 0,rfl,zhd ⟨RowAt.nil _ _,(fun g h=>by cases h),BB.o⟩⟩
 |false=>
  have hr:=HR.o.1;rw[hz]at hr;simp only[znl]at hr;have OK:=HR.o.2.1 (by simpa using hz);have Z:=zhd OK;have Bc:=zhd hr;clear hr OK;go_wp2_with fail;obtain⟨W5,Ai⟩:∃W5,W5=M.alloc (.cells #[.slice ca cn cc,.slice none 0 0,.slice none 0 0,.int .i64 0] 177):=⟨_,rfl⟩;have A6:=zha Ai;have B5:=zba Ai;have KX5:KX W5 M.heap.size (.slice ca cn cc) ⟨.slice none 0 0,.slice none 0 0⟩ ⟨[],[],0⟩:=⟨A6,RowAt.nil _ _,RowAt.nil _ _,(fun j h=>by cases h),(fun j h=>by cases h),fun j h=>by
   rcases h with h|h|h
   .omega
   .cases h
   .cases h⟩
  rw[<-Ai];have Av:=(HI.o.keep (S:=fun _=>False) (zkb (H4.o.2.2.1.trans (B5.mono (zmn l0)))) (fun _ _ f=>f)).code;obtain⟨q,hq⟩:∃q,walkL p.code=q:=⟨_,rfl⟩;have WK:=zhd (yky M.heap.size _ (fun j hj=>Nat.lt_trans hj l0) ca cn cc p.code W5 KX5 Av Z.o q hq);have H5:=zh3 B5 Av (H4.o.2.1.keep (zkb B5 (S:=fun _=>False)) (fun f=>f) (fun f=>f));have HW:=zhd (show q.1.2=0->q.1.1= -1/\Walked p.code q.2 from fun h=>by rw[<-hq]at h|-;exact yfX Z.o h);have hr:=Bc.o;rw[hq]at hr;have Au:=zhd hr;clear Ai A6 B5 KX5 Av hq hr Bc q0;refine WK.o.mono ?_;rintro e w6 ⟨v6,rfl,H6⟩;have Ba:=H5.o.2.2.keep H6.o.2.1 (fun e=>by have:=H4.o.2.1.l;rcases e with e|e|e;omega;cases e;cases e) (fun e=>by have:=H4.o.2.1.l;rcases e with e|e|e;omega;cases e;cases e);have Aj:=zhd Ba;have B6:=H4.o.2.2.1.trans ((H5.o.1.mono (zmn l0)).trans (H6.o.2.1.below (B:=W.heap.size) (by have:=H5.o.1.size;omega) (fun j hj e=>by rcases e with e|e|e;omega;cases e;cases e)));have Ak:=zhd B6;clear WK Ba B6;cases hz2:(q.1.2 !=0)with
  |true=>
   have hr:=Au.o;rw[hz2]at hr;simp only[znm]at hr;subst hr;go_wp2_with fail;obtain⟨n,N⟩:∃n,n=w6.alloc (.cells #[.int .i64 q.1.1,.int .i64 q.1.2] 112):=⟨_,rfl⟩;have b7:=zha N;have b:=zba N;rw[<-N];obtain⟨c0,c1,c2,c3,c4,f0,f1,l2⟩:=Aj.o.keep (zkb b (S:=fun _=>False)) (fun f=>f) (fun f=>f);have l1:W.heap.size+1<n.heap.size:=by omega
   have x0:=zca b7 0 rfl;have x1:=zca b7 1 rfl;have l7:w6<n.heap.size:=zlt b7;have d1:¬w6.heap.size=W.heap.size+1:=by have:=Aj.o.l;omega
   have d2:¬w6.heap.size=W.heap.size+1+1:=by have:=Aj.o.l;omega
   have BB:=zhd ((Ak.o.trans (b.mono Ak.o.size)).trans ((ycC n (W.heap.size+1) (W.heap.size+1+1) 0 1 2 0 1 (.slice none 0 0) (.int .i64 0) (.int .i64 0) (.int .i64 q.1.1) (.int .i64 q.1.2)).below (by omega) (fun j hj e=>by omega)));clear N b7 b;go_region;go_wp2_with fail;exact zng (v:=.tuple #[.agg #[.slice none 0 0,.int .i64 0,.int .i64 0],.agg #[.int .i64 q.1.1,.int .i64 q.1.2]]) (by simp only[results,Tryz.results51];go_simp) rfl ⟨.slice none 0 0,rfl,zhd ⟨RowAt.nil _ _,(fun g h=>by cases h),BB.o.drew⟩⟩
  |false=>
   have z:q.1.2=0:=by simpa using hz2
   obtain⟨A1,Ah⟩:=HW.o z;have hr:=Au.o;rw[hz2]at hr;simp only[znl]at hr;obtain⟨⟨qa,qb⟩,c⟩:=q;dsimp only at z A1;subst z;subst A1;dsimp only at Ah H6 hr;have WD:=zhd Ah;have At:=zhd hr;have Ap:=zhd (Ah.closed Z.o);clear hr Ah Au HW hz2;obtain⟨vh,vt⟩:=v6;obtain⟨ha,hc,rfl⟩:∃a cap,vh= .slice a c.heights.length cap:=H6.o.1.heights.slice;obtain⟨A,Ac⟩:∃A,A=c.heights:=⟨_,rfl⟩;rw[<-Ac]at H6 At;have qq:∀o,w6.cell? ⟨M,o,none⟩=(#[.slice ca cn cc,.slice ha A.length hc,vt,.int .i64 c.most]:Array Value)[o]? :=fun o=>by rw[zch H6.o.1.h]
   have k0:=qq 0;have k1:=qq 1;have k3:=qq 3;simp only[zmc,zma,zmb]at k0 k1 k3;have lk:M<w6.heap.size:=zlt H6.o.1.h;have A0:A.length=p.code.length:=by rw[Ac];exact WD.o.inv.len
   have A3:p.code.length<=512:=Z.o.len;have HN:=zh3 A0 A3 Ac;have RH:=H6.o.1.heights;rw[<-Ac]at RH;have Bk:=zhd RH;clear qq A0 A3 RH Ac;go_wp2_with fail;obtain⟨n,N⟩:∃n,n=w6.alloc (.cells #[.int .i64 (-1),.int .i64 0] 112):=⟨_,rfl⟩;have b:=zba N;rw[<-N];have k0:=(b.cell (p:=⟨M,0,none⟩) lk).trans k0;have k1:=(b.cell (p:=⟨M,1,none⟩) lk).trans k1;have k3:=(b.cell (p:=⟨M,3,none⟩) lk).trans k3;have l7:=b.size;have H7:=zh4 b (Ak.o.trans (b.mono Ak.o.size)) (Aj.o.keep (zkb b (S:=fun _=>False)) (fun f=>f) (fun f=>f)) (Bk.o.below b);have Ag:M<n.heap.size:=znj lk l7;clear N b lk l7;go_loopg [36] (A.length) (fun gk v36 wr=>∃i:Nat,v36= .int .i64 i/\i<=A.length/\gk=A.length - i/\ycI p.code i (A.drop i)=ycI p.code 0 A/\Below n n wr)
   case atStart=>exact⟨0,rfl,znq _,rfl,rfl,znv _ _⟩
   case round=>
    obtain⟨i,rfl,hi,I,D,d⟩:=hrel;have BW:=H7.o.2.1.trans (d.mono H7.o.2.1.size);have y:=(d.cell (p:=⟨M,0,none⟩) Ag).trans k0;have Ao:=(d.cell (p:=⟨M,1,none⟩) Ag).trans k1;have An:=(d.cell (p:=⟨M,3,none⟩) Ag).trans k3;have Am:M<wr.heap.size:=znj Ag d.size;have RR:=H7.o.2.2.2.below d;by_cases hin:i<A.length
    .obtain⟨x,Q⟩:=yae hin
     have R:A.drop i=x::A.drop (i+1):=by
      rw[znr (zge Q).1,(zge Q).2]
     rw[R,ycI]at D;obtain⟨g,Be,rfl,hg⟩:=RR.addr Q;have m0:=ydf RR Q;have A7:(i:Int)<A.length:=by omega
     have Bg:IntKind.i64.wrap ((i:Int)+1)=(i:Int)+1:=zmk _ (by have:=HN.o.1;have:=HN.o.2.1;omega);cases hz3:decide (0<=x)with
     |false=>
      have e0:¬0<=x:=zny hz3;rw[hz3]at D;simp only[Bool.false_and,znl]at D;have L:=zh3 D I d;clear D I d BW RR R Q y Ao An;go_wp2_with fail;go_roundg (A.length - (i+1))
      case measure=>have:=L.o.2.1;omega
      case rel=>exact⟨i+1,by simp,by omega,rfl,L.o.1,L.o.2.2⟩
     |true=>
      have e0:0<=x:=znx hz3;rw[hz3]at D;simp only[Bool.true_and]at D;have RO:=zhd (yj8 M.heap.size _ ca cn cc p.code wr y Am (HI.o.keep (S:=fun _=>False) (zkb BW) (fun _ _ f=>f)).code Z.o (fun k=>∃h,c.heights[k]? =some h/\0<=h) Ap.o i ⟨x,by rw[<-HN.o.2.2];exact Q,e0⟩ _ rfl);generalize roundL p.code i=rl at*;have L:=zh4 D I d BW;clear D I d BW RR R Q y Ao An;go_wp2_with fail;refine RO.o.mono ?_;rintro e w8 ⟨rfl,Ar⟩;have H8:=zhd Ar;have O:=H7.o.2.2.1.keep (zkb (L.o.2.2.1.trans (Ar.mono L.o.2.2.1.size)) (S:=fun _=>False)) (fun f=>f) (fun f=>f);clear Ar RO;cases rl with
      |true=>
       have hf:=L.o.1;simp only[znm]at hf;have hr:=At.o;rw[<-hf]at hr;subst hr;obtain⟨c0,c1,c2,c3,c4,f0,f1,l2⟩:=O;have l1:W.heap.size+1<w8.heap.size:=by omega
       have BB:=zhd ((L.o.2.2.2.trans (H8.o.mono L.o.2.2.2.size)).trans ((ycC w8 (W.heap.size+1) (W.heap.size+1+1) 0 1 2 0 1 (.slice none 0 0) (.int .i64 0) (.int .i64 0) (.int .i64 i) (.int .i64 133)).below (by omega) (fun j hj e=>by omega)));clear hf;go_wp2_with fail;exact zng (v:=.tuple #[.agg #[.slice none 0 0,.int .i64 0,.int .i64 0],.agg #[i,.int .i64 133]]) (by simp only[results,Tryz.results51];go_simp) rfl ⟨.slice none 0 0,rfl,zhd ⟨RowAt.nil _ _,(fun g h=>by cases h),BB.o⟩⟩
      |false=>
       have hf:=L.o.1;simp only[znl]at hf;have HF:=zhd hf;clear hf O;go_wp2_with fail;go_roundg (A.length - (i+1))
       case measure=>have:=L.o.2.1;omega
       case rel=>exact⟨i+1,by simp,by omega,rfl,HF.o,L.o.2.2.1.trans (H8.o.mono L.o.2.2.1.size)⟩
    .obtain rfl:i=A.length:=by omega
     obtain⟨C,rfl⟩:∃C:World,C=wr:=⟨_,rfl⟩;rw[zns (znc _),ycI]at D;have hr:=At.o;rw[<-D]at hr;subst hr;have Bh:=zhd (show∀k,(∃h,c.heights[k]? =some h/\0<=h)->roundL p.code k=false from fun k ⟨h,hh,h0⟩=>by
      have:=ycP A 0 D.symm k h (by rw[HN.o.2.2];exact hh) h0;rwa[Nat.zero_add]at this)
     have Bj:=zhd (fun k hk=>ymI Ap.o Bh.o (k:=k) hk);have O:=zhd (H7.o.2.2.1.keep (zkb d (S:=fun _=>False)) (fun f=>f) (fun f=>f));have L:=zh2 BW RR;obtain⟨ti,Az,tz,ts,tb⟩:=info_parts ynx;obtain⟨cs,Bi,A8⟩:=yfz (P:=Tryz.prog) (t:=79) Tryz.underlying79 Az tz ts tb cn (by have:=HR.o.2.2;have:=HN.o.2.1;omega);have Bl:=zhd A8;clear D I d BW RR k0 k1 k3 Az tz ts tb A8;go_wp2_with fail;go_region;go_wp2_with fail;obtain⟨w9,X⟩:∃w9,w9=((C.alloc (.cells #[.slice ha A.length hc,c.most,.int .i64 0] 110)).alloc (.cells cs 3)).drew:=⟨_,rfl⟩;have B9:Below C C w9:=by rw[X];exact((zal).alloc (by simp) _).drew
     have fb:w9.heap[C.heap.size]? =some (.cells #[.slice ha A.length hc,c.most,.int .i64 0] 110 (0,0)):=by rw[X];exact yaD
     have kr:RowAt w9 3 (.slice (some ⟨C.heap.size+1,0,none⟩) cn cn) (List.replicate cn (0:Int)):=by rw[X];exact(RowAt.made yat Bl.o (by simp) (by have:=HR.o.2.2;have:=HN.o.2.1;unfold maxLen;omega)).drew
     have Ax:w9.heap.size=C.heap.size+2:=by rw[X];simp
     rw[<-X];have H9:=zh5 B9 fb kr Ax y;clear X B9 fb kr Ax y Ao An Bi;go_loopg [72] (A.length) (fun gk v72 wr=>yp2 w9 C.heap.size (C.heap.size+1) cn p.code (.slice ha A.length hc) c.most A gk v72 wr)
     case atStart=>exact⟨0,0,_,rfl,znq _,rfl,znq _,rfl,H9.o.2.1,H9.o.2.2.1,by simp,KN.zero _ _,Keeps.refl _ _⟩
     case round=>
      obtain⟨i,m,u,rfl,hi,I,hm,E,J,Ab,A5,Ae,hK⟩:=hrel;have A9:=zhd ((O.o.keep (zkb H9.o.1 (S:=fun _=>False)) (fun f=>f) (fun f=>f)).keep hK (fun e=>by have:=O.o.l;omega) (fun e=>by have:=O.o.l;omega));have Y:=(L.o.2.below H9.o.1).keep hK (fun g hg e=>by have:=L.o.2.lt hg;omega);by_cases hin:i<A.length
      .obtain⟨x,Q⟩:=yae hin
       have R:A.drop i=x::A.drop (i+1):=by
        rw[znr (zge Q).1,(zge Q).2]
       rw[R,ycL]at E;obtain⟨g,Be,rfl,hg⟩:=Y.addr Q;have m0:=ydf Y Q;have A7:(i:Int)<A.length:=by omega
       have Bg:IntKind.i64.wrap ((i:Int)+1)=(i:Int)+1:=zmk _ (by have:=HN.o.1;have:=HN.o.2.1;omega);cases hz3:decide (0<=x)with
       |false=>
        have e0:¬0<=x:=zny hz3;rw[hz3]at E;simp only[znl]at E;have V:=zh6 E I J Ab Ae hK;clear E I J Ab Ae hK Y R Q;go_wp2_with fail;go_roundg (A.length - (i+1))
        case measure=>have:=V.o.2.1;omega
        case rel=>exact⟨i+1,m,u,by simp,by omega,rfl,hm,V.o.1,V.o.2.2.1,V.o.2.2.2.1,A5,V.o.2.2.2.2.1,V.o.2.2.2.2.2⟩
       |true=>
        have e0:0<=x:=znx hz3;rw[hz3]at E;simp only[znm]at E;have Aq:∃h,c.heights[i]? =some h/\0<=h:=⟨x,by rw[<-HN.o.2.2];exact Q,e0⟩;have KW:=Keeps.trans (S:=fun j=>C<=j) (T:=fun j=>j=C\/j=C+1) ((zkb H9.o.1 (S:=fun _=>False)).mono (fun _ _ f=>f.elim)) hK (fun j hj e=>by omega);have kz:=(KW.cell (p:=⟨M,0,none⟩) Am (by show¬C<=M.heap.size;omega)).trans H9.o.2.2.2.2;have Ay:M<wr.heap.size:=znj Am KW.size;have Bd:=(HI.o.keep (S:=fun _=>False) (zkb L.o.1) (fun _ _ f=>f)).keep KW (fun g hg e=>by have:=L.o.1.size;omega);have CS:=zhd (fun W' (K:Below wr wr W')=>yly M.heap.size (fun j=>j<W) ca cn cc p.code Z.o (fun k=>∃h,c.heights[k]? =some h/\0<=h) Ap.o (C.heap.size+1) 0 cn (by omega) (fun j hj=>by have:=L.o.1.size;omega) (p.code.length+1) i W' u (by have:=HN.o.2.1;omega) (Bj.o i Aq) Aq ((K.cell (p:=⟨M,0,none⟩) Ay).trans kz) (znj Ay K.size) (Bd.keep (S:=fun _=>False) (zkb K) (fun _ _ f=>f)).code (Ab.below K) A5 Ae);have Bm:=yf1 p.code (p.code.length+1) i
        generalize spF p.code (p.code.length+1) i=s at*;have p2:=zca J 2 rfl;have lf:C<wr.heap.size:=zlt J;have A4:max (m:Int) (s:Int)=((max m s:Nat):Int):=by omega
        have HM:=zhd A4;have V:=zh5 E I J hK KW;clear E I J Ab Ae hK KW Y R Q Aq kz Bd A4;go_wp2_with fail;go_region_law
         ((go_simp;go_at_call 97;refine(CS.o _ ((znv _ _).drew)).mono ?_;rintro e w8 ⟨rfl,H8⟩;obtain⟨Bf,g1,g2,g3,g4⟩:=H8.o;have Ad:=(g4.block C lf (by omega)).trans V.o.2.2.1;have y2:w8.cell? ⟨C,2,none⟩=some (.int .i64 m):=(by rw[zch Ad];rfl);have fy:∀o,w8.frozen? ⟨C,o,none⟩=false:=(fun o=>zfr Ad o);have ly:C<w8.heap.size:=(zlt Ad);have HG:=zh5 g1 g2 g3 (((Keeps.refl (fun j=>j=C+1) wr).drew).comp g4) Ad;clear g1 g2 g3 g4 Ad))
        all_goals
         go_wp2_with fail;go_roundg (A.length - (i+1))
         case measure=>have:=V.o.2.1;omega
         refine⟨i+1,max m s,Bf,by simp,by omega,rfl,by have:=HN.o.2.1;omega,V.o.1,?_,HG.o.1.keep (Keeps.setCell (S:=fun j=>j=C) (p:=⟨C,2,none⟩) (Keeps.refl _ _) (.inl rfl) _) (fun g hg e=>by have h1:C.heap.size+1=g:=Option.some.inj hg;omega),HG.o.2.1,HG.o.2.2.1,?_⟩
         .rw[<-HM.o]
          exact ylA HG.o.2.2.2.2 _
         .exact(V.o.2.2.2.1.trans (T:=fun j=>j=C+1) (HG.o.2.2.2.1) (fun j _ e=>.inr e)).trans (T:=fun j=>j=C) (Keeps.setCell (S:=fun j=>j=C) (p:=⟨C,2,none⟩) (Keeps.refl _ _) (.inl rfl) _) (fun j _ e=>.inl e)
      .obtain rfl:i=A.length:=by omega
       rw[zns (znc _),ycL]at E;have e0:=zca J 0 rfl;have e1:=zca J 1 rfl;have e2:=zca J 2 rfl;have lf:C<wr.heap.size:=zlt J;have d1:¬C.heap.size=W.heap.size+1:=by have:=O.o.l;omega
       have d2:¬C.heap.size=W.heap.size+1+1:=by have:=O.o.l;omega
       have Bz:Below W W wr:=L.o.1.trans ((H9.o.1.mono L.o.1.size).trans (hK.below (by have:=L.o.1.size;have:=H9.o.1.size;omega) (fun j hj e=>by have:=L.o.1.size;omega)));have V:=zh3 E Bz Y;clear E Bz Y J Ab Ae hK I;obtain⟨c0,c1,c2,c3,c4,f0,f1,l2⟩:=A9.o;have l1:W.heap.size+1<wr.heap.size:=by omega
       have KF:=ycC wr (W.heap.size+1) (W.heap.size+1+1) 0 1 2 0 1 (.slice ha A.length hc) (.int .i64 c.most) (.int .i64 m) (.int .i64 (-1)) (.int .i64 0);have BB:=zh2 (V.o.2.1.trans (KF.below (by omega) (fun j hj e=>by omega))) (V.o.2.2.keep KF (fun g hg e=>by have:=H6.o.1.lo g (.inr (.inl hg));have:=H4.o.2.1.l;omega));clear KF;go_wp2_with fail;exact zng (v:=.tuple #[.agg #[.slice ha A.length hc,c.most,m],.agg #[.int .i64 (-1),.int .i64 0]]) (by simp only[results,Tryz.results51];go_simp) rfl ⟨.slice ha A.length hc,by rw[<-V.o.1],zhd ⟨BB.o.2,(fun g hg=>by have:=H6.o.1.lo g (.inr (.inl hg));have:=H4.o.2.1.l;omega),BB.o.1⟩⟩
end Go.Proofs.YtpagmlndgblhhaaGreatDoor
namespace Go.Va
open Go.Own
theorem yh8 {code:List In}{B:Nat}:∀(l:List Int) (k m:Nat),m<=B->(∀(j:Nat) (h:Int),l[j]? =some h->0<=h->spF code (code.length+1) (k+j)<=B)->ycL code k l m<=B
 |[],_,_,hm,_=>hm
 |y::r,k,m,hm,h=>by
  rw[ycL];refine yh8 r (k+1) _ ?_ (fun j hh hj h0=> ?_)
  .by_cases h0:0<=y
   .rw[zno h0]
    have:=h 0 y rfl h0;rw[Nat.add_zero]at this;exact Nat.max_le.2 ⟨hm,this⟩
   .rw[znd h0]
    exact hm
  .have:=h (j+1) hh (by simpa using hj) h0
   rwa[show k+(j+1)=k+1+j by omega]at this
theorem yh9 {code:List In}:∀(l:List Int) (k m:Nat),m<=ycL code k l m
 |[],_,_=>znc _
 |y::r,k,m=>by
  rw[ycL];refine znf ?_ (yh9 (code:=code) r (k+1) _);cases decide (0<=y)
  .exact znc _
  .exact Nat.le_max_left ..
theorem yia {code:List In}:∀(l:List Int) (k m j:Nat) (h:Int),l[j]? =some h->0<=h->spF code (code.length+1) (k+j)<=ycL code k l m
 |[],_,_,_,_,h,_=>by simp at h
 |y::r,k,m,0,h,hh,h0=>by
  simp at hh;subst hh;rw[ycL,zno h0];have:=yh9 (code:=code) r (k+1) (max m (spF code (code.length+1) k));exact znf (Nat.le_max_right ..) this
 |y::r,k,m,j+1,h,hh,h0=>by
  rw[ycL,show k+(j+1)=k+1+j by omega];exact yia r (k+1) _ j h (by simpa using hh) h0
end Go.Va
namespace Go.Proofs.YtpagmlndgblhhaaGreatDoor
open Go.RowKit Go.Own Go.Own.MapTy Go.Va Go.Sort
open Go.Own.Cells (sz enc)
structure Known (p:Img)(fa:Fa):Prop where
 img:imgL p=0
 len:fa.heights.length=p.code.length
 zero:fa.heights[0]? =some 0
 most:0<=fa.most
 low:∀(k:Nat) (h:Int),fa.heights[k]? =some h-> -1<=h/\h<=32
 done:∀(k:Nat) (h:Int),fa.heights[k]? =some h->0<=h->DoneAt p.code fa.heights fa.most k h
 dn:∀(k:Nat) (h:Int),fa.heights[k]? =some h->0<=h->dnF p.code (p.code.length+1) k
 span:∀(k:Nat) (h:Int),fa.heights[k]? =some h->0<=h->((spF p.code (p.code.length+1) k:Nat):Int)<=fa.span
theorem yca {p:Img}{fa:Fa}{a e:Int}(h:yaN p=(fa,a,e)):(e≠0->fa=yor)/\(e=0->a= -1/\Known p fa):=by
 unfold yaN at h;cases h1:(imgL p !=0)with
 |true=>
  rw[h1]at h;simp only[znm,Prod.mk.injEq]at h;exact⟨fun _=>h.1.symm,fun e0=>by rw[<-h.2.2]at e0;rw[e0]at h1;cases h1⟩
 |false=>
  have E:imgL p=0:=by simpa using h1
  have F:=yey E;rw[h1]at h;simp only[znl]at h;cases h2:((walkL p.code).1.2 !=0)with
  |true=>
   rw[h2]at h;simp only[znm,Prod.mk.injEq]at h;have D:(walkL p.code).1.2=e:=congrArg Prod.snd h.2;exact⟨fun _=>h.1.symm,fun e0=>by rw[D,e0]at h2;cases h2⟩
  |false=>
   rw[h2]at h;simp only[znl]at h;obtain⟨_,A⟩:=yfX F (by simpa using h2);generalize(walkL p.code).2=st at h A;cases h3:ycI p.code 0 st.heights with
   |some k=>
    rw[h3]at h;simp only[Prod.mk.injEq]at h;exact⟨fun _=>h.1.symm,fun e0=>by have:=h.2.2;omega⟩
   |none=>
    rw[h3]at h;simp only[Prod.mk.injEq]at h;obtain⟨H,D,G⟩:=h;refine⟨fun e0=>absurd G.symm e0,fun _=>⟨D.symm,?_⟩⟩;subst H;have C:=A.closed F;have B:∀k,(∃h,st.heights[k]? =some h/\0<=h)->roundL p.code k=false:=fun k ⟨h,hh,h0⟩=>by
     have:=ycP st.heights 0 h3 k h hh h0;rwa[Nat.zero_add]at this
    exact⟨E,A.inv.len,A.zero,A.inv.m0,fun k h hh=>A.inv.all h (zmg hh),A.done,fun k h hh h0=>ymI C B ⟨h,hh,h0⟩,fun k h hh h0=>by
     have:=yia (code:=p.code) st.heights 0 0 k h hh h0;rw[Nat.zero_add]at this;show _<=((ycL p.code 0 st.heights 0:Nat):Int);omega⟩
theorem Known.step {p:Img}{fa:Fa}(K:Known p fa){k:Nat}{h run:Int}(hh:fa.heights[k]? =some h)(h0:0<=h)(hr:run+((spF p.code (p.code.length+1) k:Nat):Int)<=fa.span):
  ∃c,p.code[k]? =some c/\(ofL c.op).2=true/\0<=c.a/\c.a<=512/\0<=yaB c/\yaB c<=512/\0<=(ofL c.op).1.o/\(ofL c.op).1.o<=2/\yaB c<=h/\run+1<=fa.span/\
   ∀x∈followN c k,x<p.code.length/\∃h',h'=h+((ofL c.op).1.o - yaB c)/\fa.heights[x]? =some h'/\0<=h'/\h'<=fa.most/\(bif restsL c then 0 else run+1)+((spF p.code (p.code.length+1) x:Nat):Int)<=fa.span:=by
 obtain⟨c,G,i,g,f,S⟩:=K.done k h hh h0;have F:=yey K.img;have A:=zmg G;obtain⟨Z,Y,_,_,_,_,_,_,L⟩:=ybE K.img;obtain⟨P,O,T⟩:=L c A;have hm:mostL p (ofL c.op).1.operand<=513:=by
  unfold mostL;obtain⟨_,_,X,W,V,U,_,_,_⟩:=ybE K.img;cases((ofL c.op).1.operand==1)<;>cases((ofL c.op).1.operand==2)<;>cases((ofL c.op).1.operand==3)<;>cases((ofL c.op).1.operand==4)<;>cases((ofL c.op).1.operand==5)<;>simp<;>omega
 have M:=yj0 (K.dn k h hh h0);refine⟨c,G,P,O,by omega,(F.tk c A).1,(F.tk c A).2,(F.o c A).1,(F.o c A).2,by omega,by omega,fun x hx=> ?_⟩;obtain⟨H,D⟩:=S x hx;have d:=(F.o c A).1;refine⟨H,h - yaB c+(ofL c.op).1.o,by omega,D,by omega,by omega,?_⟩;have Q:=K.span x _ D (by omega);cases hra:restsL c with
 |true=>simp only[znm];omega
 |false=>
  simp only[znl];have B:yar p.code k=false:=by unfold yar;rw[G];exact hra
  have E:yas p.code k=followN c k:=by unfold yas;rw[G]
  have N:=K.dn k h hh h0;rw[dnF]at N;have J:=N.resolve_left (by rw[B];simp) x (by rw[E];exact hx);have b:spF p.code (p.code.length+1) k=(followN c k).foldl (fun n x=>max n (spF p.code p.code.length x)) 0+1:=by
   rw[spF,B,E];rfl
  have I:∀(l:List Nat) (a:Nat),x∈l->spF p.code p.code.length x<=l.foldl (fun n x=>max n (spF p.code p.code.length x)) a:=fun l=>by
   have C:∀(l:List Nat) (a:Nat),a<=l.foldl (fun n x=>max n (spF p.code p.code.length x)) a:=fun l=>by
    induction l with
    |nil=>exact fun a=>znc _
    |cons y r ih=>exact fun a=>znf (Nat.le_max_left ..) (ih _)
   induction l with
   |nil=>intro a h;cases h
   |cons y r ih=>
    intro a h;rw[List.foldl_cons];rcases List.mem_cons.1 h with rfl|h
    .exact znf (Nat.le_max_right ..) (C r _)
    .exact ih _ h
  have e:=I (followN c k) 0 hx;have R:=(yev J (Nat.le_succ _)).2;rw[R];omega
end Go.Proofs.YtpagmlndgblhhaaGreatDoor
namespace Go.Va
open Go.Own Go.RowKit
def yaq:List Th->Nat
 |[]=>0
 |x::r=>(bif x.over then 1 else 0)+yaq r
def pot (s:MS):Nat:=s.letters.length+(yaq s.timers.list+yaq s.acts.list)
theorem yec:∀(l r:List Th),yaq (l++r)=yaq l+yaq r
 |[],r=>by simp[yaq]
 |x::l,r=>by rw[List.cons_append,yaq,yaq,yec l r];omega
theorem ycO:∀(l:List Th) (i:Nat) (x:Th),l[i]? =some x->yaq (l.eraseIdx i)+(bif x.over then 1 else 0)=yaq l
 |[],_,_,h=>by simp at h
 |y::r,0,x,h=>by
  simp at h;subst h;rw[List.eraseIdx_zero,List.tail_cons,yaq];omega
 |y::r,i+1,x,h=>by
  rw[List.eraseIdx_cons_succ,yaq,yaq];have:=ycO r i x (by simpa using h);omega
theorem findT_some {id:Int}:∀{l:List Th} {i:Nat},yax id l=some i->∃x,l[i]? =some x/\x.id=id
 |[],i,h=>by cases h
 |y::r,i,h=>by
  rw[yax]at h;by_cases he:y.id=id
  .rw[if_pos he]at h
   cases h;exact⟨y,rfl,he⟩
  .rw[if_neg he]at h
   cases hf:yax id r with
   |none=>rw[hf]at h;cases h
   |some j=>
    rw[hf]at h;cases h;obtain⟨x,h1,h2⟩:=findT_some hf;exact⟨x,h1,h2⟩
theorem findLt_some {name:ByteArray}:∀{l:List Lt} {i:Nat},yao name l=some i->∃x,l[i]? =some x/\x.name=name
 |[],i,h=>by cases h
 |y::r,i,h=>by
  rw[yao]at h;by_cases he:y.name=name
  .rw[if_pos he]at h
   cases h;exact⟨y,rfl,he⟩
  .rw[if_neg he]at h
   cases hf:yao name r with
   |none=>rw[hf]at h;cases h
   |some j=>
    rw[hf]at h;cases h;obtain⟨x,h1,h2⟩:=findLt_some hf;exact⟨x,h1,h2⟩
theorem ykO {α:Type}{l:List α}{i:Nat}{x:α}(h:l[i]? =some x):(l.eraseIdx i).length+1=l.length:=by
 have:=(zge h).1;rw[List.length_eraseIdx,if_pos this];omega
structure Eff (s s':MS)(n m q:Nat):Prop where
 at_:s'.at_=s.at_
 len:s'.stk.length=s.stk.length - n+m
 pot:pot s'+q<=pot s
theorem ybA (s:MS)(why:ByteArray):(s.fall why).over=true:=by simp[MS.fall,MS.want]
theorem yke (s:MS)(v:Val):(s.put v).over=true\/s.put v=s.push v:=by
 unfold MS.put;split
 .exact .inl (ybA _ _)
 .exact .inr rfl
theorem ylb (s:MS)(op:Int)(a b:Val):(s.arith op a b).over=true\/∃x,s.arith op a b=s.push x:=by
 unfold MS.arith;split
 .exact .inl (ybA _ _)
 .exact .inr ⟨_,rfl⟩
theorem ymR (s:MS)(op:Int)(a b:Val):(s.two op a b).over=true\/∃x,s.two op a b=s.push x:=by
 have A:∀v,(s.put v).over=true\/∃x,s.put v=s.push x:=fun v=>(yke s v).imp id (fun h=>⟨v,h⟩);unfold MS.two
 repeat' split
 all_goals first|exact .inr ⟨_,rfl⟩|exact .inl (ybA _ _)|exact A _|exact ylb s op a b
def tkR (op:Int)(k:Nat):Nat:=if op=29 then k else if op=10\/op=31 then 1 else 2
theorem yaU (s:MS)(op:Int)(k:Nat):(s.reckon op k).over=true\/Eff s (s.reckon op k) (tkR op k) 1 0:=by
 have A:∀(l:List Val) (x:Val),l.length=s.stk.length - tkR op k->Eff s (({s with stk:=l}:MS).push x) (tkR op k) 1 0:=fun l x B=>⟨rfl,by show(l++[x]).length=_;rw[znk,B];rfl,znc _⟩;unfold MS.reckon;by_cases h1:op=29
 .rw[if_pos h1]
  rcases yke ({s with stk:=s.stk.take (s.stk.length - k)}:MS) (.mk 3 0 ⟨#[]⟩ (s.stk.drop (s.stk.length - k)))with h|h
  .exact .inl h
  .rw[h]
   exact .inr (A _ _ (by rw[List.length_take,tkR,if_pos h1];omega))
 .rw[if_neg h1]
  by_cases h2:op=10
  .rw[if_pos h2]
   exact .inr (A _ _ (by rw[zmi,tkR,if_neg h1,if_pos (.inl h2)]))
  .rw[if_neg h2]
   by_cases h3:op=31
   .rw[if_pos h3]
    have B:s.stk.dropLast.length=s.stk.length - tkR op k:=by rw[zmi,tkR,if_neg h1,if_pos (.inr h3)]
    split
    .exact .inr (A _ _ B)
    .split
     .exact .inr (A _ _ B)
     .exact .inl (ybA _ _)
   .rw[if_neg h3]
    rcases ymR s.pop.pop op s.pop.top s.top with h|⟨x,h⟩
    .exact .inl h
    .rw[h]
     refine .inr (A _ _ ?_);show s.stk.dropLast.dropLast.length=_;rw[zmi,zmi,tkR,if_neg h1,if_neg (by omega)];omega
theorem yeF (s:MS)(op:Int)(name:ByteArray)(hl:(if op=20 then 2 else 1)<=s.stk.length):(s.begin_ op name).over=true\/Eff s (s.begin_ op name) (if op=20 then 2 else 1) 1 0:=by
 unfold MS.begin_;by_cases h19:op=19
 .rw[if_pos h19]
  dsimp only;cases hf:(if s.top.kind=1 then yax s.top.num s.timers.list else none)with
  |none=>exact .inl (ybA _ _)
  |some i=>
   dsimp only;have A:yax s.top.num s.timers.list=some i:=by
    split at hf
    .exact hf
    .cases hf
   obtain⟨x,B,_⟩:=findT_some A;have C:=ycO _ _ _ B;rw[B];dsimp only[Option.getD];refine .inr ?_;cases hov:x.over with
   |true=>
    rw[hov]at C;refine⟨rfl,?_,?_⟩
    .show(s.stk.dropLast++[_]).length=_
     rw[znk,zmi,if_neg (by omega)];rfl
    .show s.letters.length+(yaq (s.timers.list.eraseIdx i)+yaq s.acts.list)+0<=s.letters.length+(yaq s.timers.list+yaq s.acts.list)
     omega
   |false=>
    rw[hov]at C;refine⟨rfl,?_,?_⟩
    .show(s.stk.dropLast++[_]).length=_
     rw[znk,zmi,if_neg (by omega)];rfl
    .show s.letters.length+(yaq (s.timers.list.eraseIdx i)+yaq s.acts.list)+0<=s.letters.length+(yaq s.timers.list+yaq s.acts.list)
     omega
 .rw[if_neg h19]
  dsimp only;split
  .exact .inl (ybA _ _)
  .split
   .exact .inl (ybA _ _)
   .refine .inr ?_
    by_cases h20:op=20
    .rw[if_pos h20,if_pos h20]
     rw[if_pos h20]at hl;refine⟨rfl,?_,?_⟩
     .show(s.stk.dropLast.dropLast++[_]).length=_
      rw[znk,zmi,zmi,zmh];omega
     .show s.letters.length+(yaq s.timers.list+yaq (s.acts.list++[_]))+0<=s.letters.length+(yaq s.timers.list+yaq s.acts.list)
      rw[yec];simp[yaq]
    .rw[if_neg h20,if_neg h20]
     refine⟨rfl,?_,?_⟩
     .show(s.stk.dropLast++[_]).length=_
      rw[znk,zmi,zmh]
     .show s.letters.length+(yaq (s.timers.list++[_])+yaq s.acts.list)+0<=s.letters.length+(yaq s.timers.list+yaq s.acts.list)
      rw[yec];simp[yaq]
theorem yef {s:MS}{i:Nat}{name:ByteArray}(h:yao name s.letters=some i):pot (s.openL i)+1=pot s:=by
 obtain⟨x,A,_⟩:=findLt_some h;have:=ykO A;show(s.letters.eraseIdx i).length+(yaq s.timers.list+yaq s.acts.list)+1=s.letters.length+(yaq s.timers.list+yaq s.acts.list);omega
theorem ylq (s s':MS)(op:Int)(name:ByteArray)(hop:op=18\/op=21\/op=22\/op=28)(h:s.wait op name=some s'):s'.over=true\/(s'.at_=s.at_+1/\s'.stk.length=s.stk.length - (ofL op).1.i.toNat+(ofL op).1.o.toNat/\pot s'+1=pot s):=by
 unfold MS.wait at h;by_cases h22:op=22
 .subst h22
  rw[if_pos rfl]at h;cases hf:yao name s.letters with
  |none=>rw[hf]at h;cases h
  |some i=>
   rw[hf]at h;cases h;refine .inr ⟨rfl,?_,yef hf⟩;show(s.stk++[_]).length=_;rw[znk];rfl
 .rw[if_neg h22]at h
  dsimp only at h;cases hf:(if s.top.kind=1 then yax s.top.num (if op=21 then s.acts.list else s.timers.list)else none)with
  |none=>
   rw[hf]at h;cases h;exact .inl (ybA _ _)
  |some i=>
   rw[hf]at h;dsimp only at h;have C:yax s.top.num (if op=21 then s.acts.list else s.timers.list)=some i:=by
    split at hf
    .exact hf
    .cases hf
   obtain⟨x,D,_⟩:=findT_some C;cases hk:(if op=28 then yao name s.letters else none)with
   |some k=>
    rw[hk]at h;cases h;by_cases A:op=28
    .subst A
     rw[if_pos rfl]at hk;refine .inr ⟨rfl,?_,yef (s:=s.pop) hk⟩;show((s.stk.dropLast++[_])++[_]).length=_;rw[znk,znk,zmi];rfl
    .rw[if_neg A]at hk
     cases hk
   |none=>
    rw[hk,D]at h;dsimp only[Option.getD]at h;have B:=ycO _ _ _ D;cases hov:x.over with
    |false=>rw[hov]at h;cases h
    |true=>
     rw[hov]at h B;simp only[Bool.not_true,znl,Option.some.injEq]at h;by_cases h21:op=21
     .subst h21
      rw[if_neg (by decide),if_pos rfl]at h;rw[if_pos rfl]at h B;subst h;refine .inr ⟨rfl,?_,?_⟩
      .show((s.stk.dropLast++[_])++[_]).length=_
       rw[znk,znk,zmi];rfl
      .show s.letters.length+(yaq s.timers.list+yaq ((if(21:Int)=21 then s.acts.list else s.timers.list).eraseIdx i))+1=s.letters.length+(yaq s.timers.list+yaq s.acts.list)
       simp only[znm]at B;rw[if_pos rfl];omega
     .rw[if_neg h21,if_neg h21,if_neg h21]at h
      rw[if_neg h21]at B;simp only[znm]at B;by_cases h18:op=18
      .subst h18
       rw[if_pos rfl]at h;subst h;refine .inr ⟨rfl,?_,?_⟩
       .show(s.stk.dropLast++[_]).length=_
        rw[znk,zmi];rfl
       .show s.letters.length+(yaq (s.timers.list.eraseIdx i)+yaq s.acts.list)+1=s.letters.length+(yaq s.timers.list+yaq s.acts.list)
        omega
      .rw[if_neg h18]at h
       have A:op=28:=by omega
       subst A;subst h;refine .inr ⟨rfl,?_,?_⟩
       .show((s.stk.dropLast++[_])++[_]).length=_
        rw[znk,znk,zmi];rfl
       .show s.letters.length+(yaq (s.timers.list.eraseIdx i)+yaq s.acts.list)+1=s.letters.length+(yaq s.timers.list+yaq s.acts.list)
        omega
theorem ynd {s s':MS}{n m q:Nat}(h:Eff s.nxt s' n m q):s'.at_=s.at_+1/\s'.stk.length=s.stk.length - n+m/\pot s'+q<=pot s:=⟨h.at_,h.len,h.pot⟩
theorem ya6 (s:MS)(x:Val):(s.push x).stk.length=s.stk.length+1:=by
 show(s.stk++[x]).length=_;rw[znk];rfl
theorem pop_len (s:MS):s.pop.stk.length=s.stk.length - 1:=zmi
theorem yoD (s:MS)(p:Img)(op:Int)(k:Nat)(h0:0<=op)(h1:op<33)(hb:(ofL op).1.blocks=false)(he:(ofL op).1.ends=false)(hf:(ofL op).1.flow=false)(hl:(if op=29 then k else(ofL op).1.i.toNat)<=s.stk.length):
  (s.go p op k).over=true\/Eff s (s.go p op k) (if op=29 then k else(ofL op).1.i.toNat) (ofL op).1.o.toNat 0:=by
 have B:op=0\/op=1\/op=2\/op=3\/op=4\/op=13\/op=14\/op=15\/op=16\/op=17\/op=19\/op=20\/op=23\/op=24\/op=5\/op=6\/op=7\/op=8\/op=9\/op=10\/op=29\/op=30\/op=31\/op=32:=by
  have:op=11\/op=12\/op=18\/op=21\/op=22\/op=25\/op=26\/op=27\/op=28\/¬(op=11\/op=12\/op=18\/op=21\/op=22\/op=25\/op=26\/op=27\/op=28):=by omega
  rcases this with rfl|rfl|rfl|rfl|rfl|rfl|rfl|rfl|rfl|h
  .cases hf
  .cases hf
  .cases hb
  .cases hb
  .cases hb
  .cases he
  .cases he
  .cases he
  .cases hb
  .omega
 have A:∀l:List Val,l.dropLast.length=l.length - 1:=fun l=>zmi;rcases B with rfl|rfl|rfl|rfl|rfl|rfl|rfl|rfl|rfl|rfl|rfl|rfl|rfl|rfl|rfl|rfl|rfl|rfl|rfl|rfl|rfl|rfl|rfl|rfl
 .exact .inr ⟨rfl,rfl,znc _⟩
 .exact .inr ⟨rfl,ya6 s _,znc _⟩
 .exact .inr ⟨rfl,pop_len s,znc _⟩
 .refine .inr ⟨rfl,(ya6 s _).trans ?_,znc _⟩
  have hl:1<=s.stk.length:=hl;show s.stk.length+1=s.stk.length - 1+2;omega
 .refine .inr ⟨rfl,(ya6 (s.pop.pop.push s.top) s.pop.top).trans ?_,znc _⟩
  rw[ya6,pop_len,pop_len];show s.stk.length - 1 - 1+1+1=s.stk.length - 2+2;omega
 .exact .inr ⟨rfl,ya6 s _,znc _⟩
 .exact .inr ⟨rfl,pop_len s,znc _⟩
 .exact .inr ⟨rfl,ya6 s _,znc _⟩
 .exact .inr ⟨rfl,ya6 s _,znc _⟩
 .exact yeF s 17 _ hl
 .exact yeF s 19 (p.names[k]?.getD ⟨#[]⟩) hl
 .exact yeF s 20 _ hl
 .have e:s.go p 23 k=match yao (p.names[k]?.getD ⟨#[]⟩) s.letters with
   |some i=>((s.openL i).push (s.letV i)).push (yaE true)
   |none=>(s.push yag).push (yaE false):=rfl
  rw[e];cases hq:yao (p.names[k]?.getD ⟨#[]⟩) s.letters with
  |some i=>exact .inr ⟨rfl,(ya6 ((s.openL i).push (s.letV i)) _).trans (by rw[ya6];rfl),by have:=yef hq;show pot (s.openL i)+0<=pot s;omega⟩
  |none=>exact .inr ⟨rfl,(ya6 (s.push yag) _).trans (by rw[ya6];rfl),znc _⟩
 .exact .inr ⟨rfl,ya6 s _,znc _⟩
 .exact yaU s 5 k
 .exact yaU s 6 k
 .exact yaU s 7 k
 .exact yaU s 8 k
 .exact yaU s 9 k
 .exact yaU s 10 k
 .exact yaU s 29 k
 .exact yaU s 30 k
 .exact yaU s 31 k
 .exact yaU s 32 k
theorem yk7 {op:Int}(h0:0<=op)(h1:op<33)(h:(ofL op).1.blocks=true):op=18\/op=21\/op=22\/op=28:=by
 have A:op=0\/op=1\/op=2\/op=3\/op=4\/op=5\/op=6\/op=7\/op=8\/op=9\/op=10\/op=11\/op=12\/op=13\/op=14\/op=15\/op=16\/op=17\/op=19\/op=20\/op=23\/op=24\/op=25\/op=26\/op=27\/op=29\/op=30\/op=31\/op=32\/(op=18\/op=21\/op=22\/op=28):=by omega
 rcases A with rfl|rfl|rfl|rfl|rfl|rfl|rfl|rfl|rfl|rfl|rfl|rfl|rfl|rfl|rfl|rfl|rfl|rfl|rfl|rfl|rfl|rfl|rfl|rfl|rfl|rfl|rfl|rfl|rfl|h1
 all_goals first|exact h1|cases h
theorem ymd (s:MS){op:Int}(name:ByteArray):(s.end_ op name).over=true:=by
 unfold MS.end_;split
 .simp[MS.want]
 .split<;>simp[MS.want]
theorem yh7 {p:Img}{s s':MS}{c:In}(hc:p.code[s.at_]? =some c)(h0:0<=c.op)(h1:c.op<33)(ha:0<=c.a)(hh:yaB c<=s.stk.length)(h:yal p s=some s'):
  s'.over=true\/(s'.at_∈followN c s.at_/\(s'.stk.length:Int)=s.stk.length+((ofL c.op).1.o - yaB c)/\pot s'+(bif restsL c then 1 else 0)<=pot s):=by
 unfold yal at h;rw[hc]at h;dsimp only[Option.getD]at h;unfold followN restsL;cases hb:(ofL c.op).1.blocks with
 |true=>
  rw[hb]at h;simp only[znm]at h;have B:=yk7 h0 h1 hb;rcases ylq _ _ _ _ B h with h|⟨J,I,M⟩
  .exact .inl h
  .refine .inr ⟨?_,?_,?_⟩
   .rw[J]
    rcases B with e|e|e|e<;>rw[e]<;>exact List.mem_singleton.2 rfl
   .rw[I]
    unfold yaB at hh|-;rcases B with e|e|e|e
    all_goals
     rw[e]at hh|-
     first|(have hh:(1:Int)<=s.stk.length:=hh;show((s.stk.length - 1+1:Nat):Int)=s.stk.length+(1 - 1);omega)|(have hh:(1:Int)<=s.stk.length:=hh;show((s.stk.length - 1+2:Nat):Int)=s.stk.length+(2 - 1);omega)|(show((s.stk.length - 0+1:Nat):Int)=s.stk.length+(1 - 0);omega)
   .simp only[Bool.true_or,znm]
    omega
 |false=>
  rw[hb]at h;simp only[znl]at h;cases he:(ofL c.op).1.ends with
  |true=>
   rw[he]at h;simp only[znm,Option.some.injEq]at h;rw[<-h];exact .inl (ymd _ _)
  |false=>
   rw[he]at h;simp only[znl,Bool.or_false]at h|-;cases hf:(ofL c.op).1.flow with
   |true=>
    rw[hf]at h;simp only[znm,Option.some.injEq]at h;have F:pot s.pop=pot s:=rfl;cases A:(c.op==11)with
    |true=>
     rw[A]at h;simp only[znm]at h|-;rw[<-h];have e:c.op=11:=by simpa using A
     refine .inr ⟨List.mem_singleton.2 rfl,?_,znc _⟩;unfold yaB;rw[e];show(s.stk.length:Int)=s.stk.length+(0 - 0);omega
    |false=>
     rw[A]at h;simp only[znl]at h|-;have e:c.op=12:=by
      have G:∀op:Int,0<=op->op<33->(ofL op).1.flow=true->op≠11->op=12:=fun op h0 h1 h hn=>by
       have hc:op=0\/op=1\/op=2\/op=3\/op=4\/op=5\/op=6\/op=7\/op=8\/op=9\/op=10\/op=13\/op=14\/op=15\/op=16\/op=17\/op=18\/op=19\/op=20\/op=21\/op=22\/op=23\/op=24\/op=25\/op=26\/op=27\/op=28\/op=29\/op=30\/op=31\/op=32\/op=12:=by omega
       rcases hc with rfl|rfl|rfl|rfl|rfl|rfl|rfl|rfl|rfl|rfl|rfl|rfl|rfl|rfl|rfl|rfl|rfl|rfl|rfl|rfl|rfl|rfl|rfl|rfl|rfl|rfl|rfl|rfl|rfl|rfl|rfl|e
       all_goals first|exact e|cases h
      exact G c.op h0 h1 hf (by simpa using A)
     have C:((s.stk.length - 1:Nat):Int)=s.stk.length+((ofL c.op).1.o - yaB c):=by
      unfold yaB at hh|-;rw[e]at hh|-;have hh:(1:Int)<=s.stk.length:=hh;show((s.stk.length - 1:Nat):Int)=s.stk.length+(0 - 1);omega
     cases ht:ycm s.top with
     |true=>
      rw[ht]at h;simp only[znm]at h;rw[<-h];refine .inr ⟨zmf,?_,znc _⟩;show((s.stk.dropLast.length:Nat):Int)=_;rw[zmi];exact C
     |false=>
      rw[ht]at h;simp only[znl]at h;rw[<-h];refine .inr ⟨zme _ (List.mem_singleton.2 rfl),?_,znc _⟩;show((s.stk.dropLast.length:Nat):Int)=_;rw[zmi];exact C
   |false=>
    rw[hf]at h;simp only[znl,Option.some.injEq]at h;have A:(c.op==11)=false:=by
     rw[zna];intro e;rw[e]at hf;cases hf
    rw[A];simp only[znl];have H:=ycB c.op;have E:yaB c=((if c.op=29 then c.a.toNat else(ofL c.op).1.i.toNat:Nat):Int):=by
     unfold yaB;by_cases e:c.op=29
     .rw[if_pos e,show(c.op==29)=true by simpa using e,znm]
      omega
     .rw[if_neg e,show(c.op==29)=false by simpa using e,znl]
      omega
    have C:(if c.op=29 then c.a.toNat else(ofL c.op).1.i.toNat)<=s.nxt.stk.length:=by
     show _<=s.stk.length;omega
    have D:=yoD s.nxt p c.op c.a.toNat h0 h1 hb he hf C;rw[h]at D;rcases D with D|D
    .exact .inl D
    .obtain⟨L,K,N⟩:=ynd D
     refine .inr ⟨List.mem_singleton.2 L,?_,by omega⟩;have C:(if c.op=29 then c.a.toNat else(ofL c.op).1.i.toNat)<=s.stk.length:=C;rw[K,E];omega
structure Fr (s s':MS):Prop where
 steps:s'.steps=s.steps
 events:s'.events=s.events
 taken:s'.taken=s.taken
 input:s'.input=s.input
 now:s'.now=s.now
 asked:s'.asked=s.asked
 begun:s'.begun=s.begun
 places:s'.places.length=s.places.length
theorem Fr.trans {a b c:MS}(h:Fr a b)(k:Fr b c):Fr a c:=⟨k.steps.trans h.steps,k.events.trans h.events,k.taken.trans h.taken,k.input.trans h.input,k.now.trans h.now,k.asked.trans h.asked,k.begun.trans h.begun,k.places.trans h.places⟩
theorem yhz (s:MS)(why:ByteArray):Fr s (s.fall why):=⟨rfl,rfl,rfl,rfl,rfl,rfl,rfl,rfl⟩
theorem yhy (s:MS)(v:Val):Fr s (s.push v):=⟨rfl,rfl,rfl,rfl,rfl,rfl,rfl,rfl⟩
theorem ymE (s:MS)(v:Val):Fr s (s.put v):=by
 unfold MS.put;split
 .exact yhz _ _
 .exact yhy _ _
theorem yl7 (s:MS)(op:Int)(a b:Val):Fr s (s.arith op a b):=by
 unfold MS.arith;split
 .exact yhz _ _
 .exact yhy _ _
theorem yoG (s:MS)(op:Int)(a b:Val):Fr s (s.two op a b):=by
 unfold MS.two
 repeat' split
 all_goals first|exact yhy _ _|exact yhz _ _|exact ymE _ _|exact yl7 _ _ _ _
theorem ygs (s:MS)(op:Int)(k:Nat):Fr s (s.reckon op k):=by
 unfold MS.reckon
 repeat' split
 all_goals first|exact⟨rfl,rfl,rfl,rfl,rfl,rfl,rfl,rfl⟩|exact Fr.trans (b:=s.pop.pop) ⟨rfl,rfl,rfl,rfl,rfl,rfl,rfl,rfl⟩ (yoG _ _ _ _)|exact Fr.trans (b:={s with stk:=s.stk.take (s.stk.length - k)}) ⟨rfl,rfl,rfl,rfl,rfl,rfl,rfl,rfl⟩ (ymE _ _)
theorem yiw (s:MS)(op:Int)(name:ByteArray):Fr s (s.begin_ op name):=by
 unfold MS.begin_;dsimp only;split
 .split
  .exact⟨rfl,rfl,rfl,rfl,rfl,rfl,rfl,rfl⟩
  .rename_i i _
   cases(s.timers.list[i]?.getD ⟨0,false,yag,0⟩).over<;>exact⟨rfl,rfl,rfl,rfl,rfl,rfl,rfl,rfl⟩
 .repeat' split
  all_goals exact⟨rfl,rfl,rfl,rfl,rfl,rfl,rfl,rfl⟩
theorem ynD {s s':MS}{op:Int}{name:ByteArray}(h:s.wait op name=some s'):Fr s s':=by
 unfold MS.wait at h;split at h
 .cases hf:yao name s.letters with
  |none=>rw[hf]at h;cases h
  |some i=>rw[hf]at h;cases h;exact⟨rfl,rfl,rfl,rfl,rfl,rfl,rfl,rfl⟩
 .dsimp only at h
  split at h
  .cases h;exact⟨rfl,rfl,rfl,rfl,rfl,rfl,rfl,rfl⟩
  .split at h
   .cases h;exact⟨rfl,rfl,rfl,rfl,rfl,rfl,rfl,rfl⟩
   .rename_i i _ _ _
    cases hov:((if op=21 then s.acts.list else s.timers.list)[i]?.getD ⟨0,false,yag,0⟩).over with
    |false=>rw[hov]at h;cases h
    |true=>
     rw[hov]at h;simp only[Bool.not_true,znl,Option.some.injEq]at h;subst h
     repeat' split
     all_goals exact⟨rfl,rfl,rfl,rfl,rfl,rfl,rfl,rfl⟩
theorem yoI (s:MS)(op:Int)(name:ByteArray):Fr s (s.end_ op name):=by
 unfold MS.end_
 repeat' split
 all_goals exact⟨rfl,rfl,rfl,rfl,rfl,rfl,rfl,rfl⟩
theorem yoH {s a b:MS}{c:Prop}[Decidable c](ha:Fr s a)(hb:Fr s b):Fr s (if c then a else b):=by
 split
 .exact ha
 .exact hb
theorem ypO (s:MS)(p:Img)(op:Int)(k:Nat):Fr s (s.go p op k):=by
 unfold MS.go;dsimp only
 repeat' (first|exact yiw _ _ _|exact ygs _ _ _|refine yoH ?_ ?_)
 all_goals try(cases yao (p.names[k]?.getD ⟨#[]⟩) s.letters)
 all_goals first|exact⟨rfl,rfl,rfl,rfl,rfl,rfl,rfl,rfl⟩|exact⟨rfl,rfl,rfl,rfl,rfl,rfl,rfl,List.length_set⟩|exact yiw _ _ _|exact ygs _ _ _
theorem ybM {p:Img}{s s':MS}(h:yal p s=some s'):Fr s s':=by
 unfold yal at h;dsimp only at h;cases hb:(ofL (p.code[s.at_]?.getD ⟨0,0⟩).op).1.blocks with
 |true=>rw[hb]at h;exact ynD h
 |false=>
  rw[hb]at h;simp only[znl]at h;cases he:(ofL (p.code[s.at_]?.getD ⟨0,0⟩).op).1.ends with
  |true=>rw[he]at h;cases h;exact yoI _ _ _
  |false=>
   rw[he]at h;simp only[znl]at h;cases hf:(ofL (p.code[s.at_]?.getD ⟨0,0⟩).op).1.flow with
   |true=>
    rw[hf]at h;cases h;cases((p.code[s.at_]?.getD ⟨0,0⟩).op==11)
    .cases ycm s.top<;>exact⟨rfl,rfl,rfl,rfl,rfl,rfl,rfl,rfl⟩
    .exact⟨rfl,rfl,rfl,rfl,rfl,rfl,rfl,rfl⟩
   |false=>
    rw[hf]at h;cases h;exact Fr.trans (b:=s.nxt) ⟨rfl,rfl,rfl,rfl,rfl,rfl,rfl,rfl⟩ (ypO _ _ _ _)
end Go.Va
namespace Go.Va
open Go.Own Go.RowKit
open Go.Proofs.YtpagmlndgblhhaaGreatDoor
def At (fa:Fa)(s:MS):Prop:=fa.heights[s.at_]? =some (s.stk.length:Int)
def ygm (p:Img)(fa:Fa)(s:MS):Int:=(spF p.code (p.code.length+1) s.at_:Nat)+fa.span*(pot s:Nat)
theorem yhO {p:Img}{fa:Fa}(K:Known p fa){s:MS}(R:At fa s):∃c,p.code[s.at_]? =some c/\0<=c.op/\c.op<33/\0<=c.a/\yaB c<=s.stk.length/\(ofL c.op).2=true/\c.a<mostL p (ofL c.op).1.operand:=by
 have F:(0:Int)<=s.stk.length:=Int.natCast_nonneg _;obtain⟨c,B,A,E,G,_,_,_,_,D,_⟩:=K.step R F (run:=fa.span - (spF p.code (p.code.length+1) s.at_:Nat)) (by omega);have hm:=(ybE K.img).2.2.2.2.2.2.2.2 c (zmg B);have C:0<=c.op/\c.op<33:=by
  by_cases h:0<=c.op/\c.op<33
  .exact h
  .exfalso
   have e:∀j:Int,0<=j->j<=32->(c.op==j)=false:=fun j B A=>by rw[zna];omega
   have:(ofL c.op).2=false:=by
    simp only[ofL,ycG,e 0 (by decide) (by decide),e 1 (by decide) (by decide),e 2 (by decide) (by decide),e 3 (by decide) (by decide),e 4 (by decide) (by decide),e 5 (by decide) (by decide),e 6 (by decide) (by decide),e 7 (by decide) (by decide),e 8 (by decide) (by decide),e 9 (by decide) (by decide),e 10 (by decide) (by decide),e 11 (by decide) (by decide),e 12 (by decide) (by decide),e 13 (by decide) (by decide),e 14 (by decide) (by decide),e 15 (by decide) (by decide),e 16 (by decide) (by decide),e 17 (by decide) (by decide),e 18 (by decide) (by decide),e 19 (by decide) (by decide),e 20 (by decide) (by decide),e 21 (by decide) (by decide),e 22 (by decide) (by decide),e 23 (by decide) (by decide),e 24 (by decide) (by decide),e 25 (by decide) (by decide),e 26 (by decide) (by decide),e 27 (by decide) (by decide),e 28 (by decide) (by decide),e 29 (by decide) (by decide),e 30 (by decide) (by decide),e 31 (by decide) (by decide),e 32 (by decide) (by decide),znl]
   rw[A]at this;cases this
 exact⟨c,B,C.1,C.2,E,D,A,hm.2.2⟩
theorem ydG {p:Img}{fa:Fa}(K:Known p fa){s:MS}(R:At fa s):1<=(spF p.code (p.code.length+1) s.at_:Nat)/\((spF p.code (p.code.length+1) s.at_:Nat):Int)<=fa.span:=
 ⟨yj0 (K.dn _ _ R (Int.natCast_nonneg _)),K.span _ _ R (Int.natCast_nonneg _)⟩
theorem ydW {p:Img}{fa:Fa}(K:Known p fa){s s':MS}(R:At fa s)(h:yal p s=some s'):s'.over=true\/(At fa s'/\ygm p fa s'+1<=ygm p fa s):=by
 obtain⟨c,F,M,L,I,H,_,_⟩:=yhO K R;rcases yh7 F M L I H h with E|⟨E,J,C⟩
 .exact .inl E
 .have P:=ydG K R
  obtain⟨S,B,_,_,_,_,_,_,_,_,_,G⟩:=K.step R (Int.natCast_nonneg _) (run:=fa.span - (spF p.code (p.code.length+1) s.at_:Nat)) (by omega);rw[F]at B;cases B;obtain⟨_,Q,O,N,_,_,D⟩:=G _ E;refine .inr ⟨by unfold At;rw[N,O,J],?_⟩;unfold ygm;have A:0<=fa.span:=by omega
  cases hr:restsL c with
  |true=>
   rw[hr]at D C;simp only[znm]at D C;have hm:fa.span*((pot s':Nat):Int)+fa.span<=fa.span*((pot s:Nat):Int):=by
    rw[show fa.span*((pot s':Nat):Int)+fa.span=fa.span*(((pot s':Nat):Int)+1) by rw[Int.mul_add,Int.mul_one]];exact Int.mul_le_mul_of_nonneg_left (by omega) A
   omega
  |false=>
   rw[hr]at D C;simp only[znl]at D C;have hm:fa.span*((pot s':Nat):Int)<=fa.span*((pot s:Nat):Int):=Int.mul_le_mul_of_nonneg_left (by omega) A;omega
theorem ydI {p:Img}{fa:Fa}(K:Known p fa){s:MS}(R:At fa s):1<=ygm p fa s:=by
 have h:=ydG K R;have:0<=fa.span*((pot s:Nat):Int):=Int.mul_nonneg (by omega) (Int.natCast_nonneg _);unfold ygm;omega
theorem ymY {p:Img}{fa:Fa}(K:Known p fa):∀(f:Nat) (s:MS),(s.over=false->At fa s/\ygm p fa s<=f)->
  ((ya1 p f s).over=true\/(At fa (ya1 p f s)/\yal p (ya1 p f s)=none))/\((s.over=true/\ya1 p f s=s)\/(s.over=false/\((ya1 p f s).steps:Int)<=s.steps+ygm p fa s)):=by
 intro f
 induction f with
 |zero=>
  intro s h;have e:ya1 p 0 s=s:=rfl;rw[e];by_cases A:s.over=true
  .exact⟨.inl A,.inl ⟨A,rfl⟩⟩
  .have A:s.over=false:=by simpa using A
   obtain⟨D,G⟩:=h A;have:=ydI K D;omega
 |succ f ih=>
  intro s h;by_cases A:s.over=true
  .have e:ya1 p (f+1) s=s:=by rw[ya1,A];rfl
   rw[e];exact⟨.inl A,.inl ⟨A,rfl⟩⟩
  .have A:s.over=false:=by simpa using A
   obtain⟨D,G⟩:=h A;have H:=ydI K D;cases hs:yal p s with
   |none=>
    have e:ya1 p (f+1) s=s:=by rw[ya1,A,hs];rfl
    rw[e];exact⟨.inr ⟨D,hs⟩,.inr ⟨A,by omega⟩⟩
   |some s'=>
    have e:ya1 p (f+1) s=ya1 p f {s' with steps:=s'.steps+1}:=by rw[ya1,A,hs];rfl
    rw[e];have F:s'.steps=s.steps:=(ybM hs).steps;rcases ydW K D hs with C|⟨C,I⟩
    .obtain⟨E,B⟩:=ih {s' with steps:=s'.steps+1} (fun e=>by rw[show({s' with steps:=s'.steps+1}:MS).over=s'.over from rfl,C]at e;cases e)
     rcases B with⟨_,B⟩|⟨B,_⟩
     .refine⟨E,.inr ⟨A,?_⟩⟩
      rw[B];show((s'.steps+1:Nat):Int)<=_;omega
     .rw[show({s' with steps:=s'.steps+1}:MS).over=s'.over from rfl,C]at B
      cases B
    .have hm:ygm p fa {s' with steps:=s'.steps+1}=ygm p fa s':=rfl
     obtain⟨E,B⟩:=ih {s' with steps:=s'.steps+1} (fun _=>⟨C,by rw[hm];omega⟩);refine⟨E,.inr ⟨A,?_⟩⟩;rcases B with⟨_,B⟩|⟨_,B⟩
     .rw[B]
      show((s'.steps+1:Nat):Int)<=_;have:=ydI K C;omega
     .rw[hm]at B
      have B:_<=((s'.steps+1:Nat):Int)+_:=B;omega
def fuel (p:Img)(s:MS):Nat:=(p.code.length+1)*(pot s+1)
theorem ymV {p:Img}{fa:Fa}{a:Int}(h:yaN p=(fa,a,0)):fa.span<=p.code.length+1:=by
 unfold yaN at h;have A:yor.span<=(p.code.length:Int)+1:=by show(0:Int)<=_;omega
 cases h1:(imgL p !=0)with
 |true=>
  rw[h1]at h;simp only[znm,Prod.mk.injEq]at h;rw[<-h.1];exact A
 |false=>
  rw[h1]at h;simp only[znl]at h;cases h2:((walkL p.code).1.2 !=0)with
  |true=>
   rw[h2]at h;simp only[znm,Prod.mk.injEq]at h;rw[<-h.1];exact A
  |false=>
   rw[h2]at h;simp only[znl]at h;cases h3:ycI p.code 0 (walkL p.code).2.heights with
   |some k=>
    rw[h3]at h;simp only[Prod.mk.injEq]at h;rw[<-h.1];exact A
   |none=>
    rw[h3]at h;simp only[Prod.mk.injEq]at h;rw[<-h.1];have:=yh8 (code:=p.code) (B:=p.code.length+1) (walkL p.code).2.heights 0 0 (znq _) (fun j h _ _=>yf1 _ _ _);show((ycL p.code 0 (walkL p.code).2.heights 0:Nat):Int)<=_;omega
theorem ygl {p:Img}{fa:Fa}{s:MS}(hs:fa.span<=p.code.length+1):ygm p fa s<=fuel p s:=by
 unfold ygm fuel;have C:=yf1 p.code (p.code.length+1) s.at_;have B:fa.span*((pot s:Nat):Int)<=(p.code.length+1)*((pot s:Nat):Int):=Int.mul_le_mul_of_nonneg_right hs (Int.natCast_nonneg _);have A:(((p.code.length+1)*(pot s+1):Nat):Int)=(p.code.length+1)*((pot s:Nat):Int)+(p.code.length+1):=by
  rw[Nat.mul_add_one,Int.natCast_add,Int.natCast_mul];rfl
 omega
end Go.Va
namespace Go.Va
open Go.Own Go.RowKit
def ygA (k:Int):Option (Bool×Bool×Bool×Bool×Bool):=
 if k=1 then some (true,true,true,true,true)else if k=2 then some (false,true,false,false,false)else if k=3 then some (true,true,false,false,false)else if k=4 then some (true,true,false,false,false)else
 if k=5 then some (false,true,false,false,false)else if k=6 then some (false,true,true,false,false)else if k=7 then some (true,true,true,false,true)else if k=8 then some (true,false,false,false,true)else
 if k=9 then some (true,false,true,false,false)else if k=10 then some (true,false,false,false,false)else if k=11 then some (true,true,false,false,false)else if k=12 then some (true,false,false,false,false)else
 if k=13 then some (true,false,false,false,false)else if k=14 then some (false,false,true,false,true)else if k=15 then some (false,false,false,false,false)else if k=16 then some (false,false,false,false,true)else
 if k=17 then some (false,false,true,false,false)else if k=18 then some (false,false,false,false,false)else if k=19 then some (false,false,true,false,false)else if k=20 then some (false,false,false,false,false)else
 if k=21 then some (false,true,false,false,true)else none
def yaH (k:Int):Bool:=decide (k=1\/k=8\/k=9\/k=10\/k=12\/k=14\/k=15\/k=19\/k=20)
def yn3 (k id t a b:Int)(n m:Nat)(vk cl:Int):Int:=
 match ygA k with
 |none=>9
 |some (hA,hB,hN,hT,hV)=>
  if id<1\/1048576<id\/t<0\/4611686018427387903<t then 1 else
  if a<0\/b<0\/(hA=false/\a≠0)\/(hB=false/\b≠0)then 1 else
  if 64<n\/128<m then 2 else
  if(hN=false/\n≠0)\/(hT=false/\m≠0)then 8 else
  if hV=false/\vk≠0 then 8 else cl
end Go.Va
