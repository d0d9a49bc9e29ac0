/- Parts of the proof: what the functions and the plain laws give that later parts lean on. Conditions: none beyond those that each theorem names. -/
import Derived.Test.YtpagmlndgblhhaaGreatDoorR8
set_option maxRecDepth 100000
set_option maxHeartbeats 8000000
namespace Go.Va
inductive Way (code:List In):Nat→Nat→Prop
 |one {p x:Nat}:yao code p=false→x∈yaq code p→Way code p x
 |more {p k x:Nat}:Way code p k→yao code k=false→x∈yaq code k→Way code p x
structure Rn (code:List In)(k0:Nat)(seen:List Bool)(todo:List Nat):Prop where
 td:∀k∈todo,k=k0∨seen[k]? =some true
 way:∀k,seen[k]? =some true→Way code k0 k∧yao code k=false
 ok:∀k,(k=k0∨seen[k]? =some true)→k∈todo∨∀x∈yaq code k,x≠k0∧(yao code x=true∨seen[x]? =some true)
theorem ycr {code:List In}{k0 k:Nat}(hr:yao code k0=false)(hk:k=k0∨Way code k0 k)(hkr:yao code k=false):∀(l:List Nat) (seen:List Bool) (todo:List Nat),(∀x∈l,x∈yaq code k)→(∀x∈l,x<seen.length)→
  (∀j∈todo,j=k0∨seen[j]? =some true)→(∀j:Nat,seen[j]? =some true→Way code k0 j∧yao code j=false)→(∀j:Nat,(j=k0∨seen[j]? =some true)→j=k∨j∈todo∨∀x∈yaq code j,x≠k0∧(yao code x=true∨seen[x]? =some true))→
  match yaZ code k0 l seen todo with
  |none=>Way code k0 k0
  |some q=>q.1.length=seen.length∧(∀j∈q.2,j=k0∨q.1[j]? =some true)∧(∀j:Nat,q.1[j]? =some true→Way code k0 j∧yao code j=false)∧(∀j:Nat,(j=k0∨q.1[j]? =some true)→j=k∨j∈q.2∨∀x∈yaq code j,x≠k0∧(yao code x=true∨q.1[x]? =some true))∧(∀x∈l,x≠k0∧(yao code x=true∨q.1[x]? =some true))∧(∀j:Nat,seen[j]? =some true→q.1[j]? =some true)
 |[],seen,todo,_,_,h1,h2,h3=>⟨rfl,h1,h2,h3,(fun x hx=>by cases hx),fun _ h=>h⟩
 |x::r,seen,todo,hl,hn,h1,h2,h3=>by
  have hxf:=hl x (zmf ..);have hxn:=hn x (zmf ..);have hwx:Way code k0 x:=by
   rcases hk with rfl|hk
   ·exact .one hr hxf
   ·exact .more hk hkr hxf
  rw[yaZ];cases hx0:(x==k0)with
  |true=>
   simp only[znm];rw[beq_iff_eq]at hx0;rw[←hx0];rw[hx0]at hwx⊢;exact hwx
  |false=>
   simp only[znl];rw[zna]at hx0;cases hs:(!(seen.getD x false)&& !(yao code x))with
   |true=>
    simp only[znm];rw[Bool.and_eq_true,Bool.not_eq_true',Bool.not_eq_true']at hs;have hset:∀j,(seen.set x true)[j]? =some true↔j=x∨seen[j]? =some true:=fun j=>by
     rw[List.getElem?_set];by_cases e:x=j
     ·subst e
      simp[hxn]
     ·rw[if_neg e]
      exact⟨.inr,fun h=>h.resolve_left (fun h=>e h.symm)⟩
    have:=ycr hr hk hkr r (seen.set x true) (todo++[x]) (fun y hy=>hl y (zme _ hy)) (fun y hy=>by rw[List.length_set];exact hn y (zme _ hy))
     (fun j hj=>by
       simp only[List.mem_append,List.mem_singleton]at hj;rcases hj with hj|rfl
       ·exact(h1 j hj).imp id (fun h=>(hset j).2 (.inr h))
       ·exact .inr ((hset j).2 (.inl rfl)))
     (fun j hj=>by
       rcases(hset j).1 hj with rfl|hj
       ·exact⟨hwx,hs.2⟩
       ·exact h2 j hj)
     (fun j hj=>by
       have hj2:j=x∨(j=k0∨seen[j]? =some true):=by
        rcases hj with hj|hj
        ·exact .inr (.inl hj)
        ·exact((hset j).1 hj).imp id .inr
       rcases hj2 with rfl|hj2
       ·exact .inr (.inl (by simp))
       ·rcases h3 j hj2 with h|h|h
        ·exact .inl h
        ·exact .inr (.inl (List.mem_append_left _ h))
        ·exact .inr (.inr (fun y hy=>⟨(h y hy).1,(h y hy).2.imp id (fun e=>(hset y).2 (.inr e))⟩)))
    revert this;cases yaZ code k0 r (seen.set x true) (todo++[x])with
    |none=>exact id
    |some q=>
     rintro⟨g0,g1,g2,g3,g4,g5⟩;refine⟨by rw[g0,List.length_set],g1,g2,g3,fun y hy=> ?_,fun j hj=>g5 j ((hset j).2 (.inr hj))⟩;rcases List.mem_cons.1 hy with rfl|hy
     ·exact⟨hx0,.inr (g5 y ((hset y).2 (.inl rfl)))⟩
     ·exact g4 y hy
   |false=>
    simp only[znl];have:=ycr hr hk hkr r seen todo (fun y hy=>hl y (zme _ hy)) (fun y hy=>hn y (zme _ hy)) h1 h2 h3;revert this;cases yaZ code k0 r seen todo with
    |none=>exact id
    |some q=>
     rintro⟨g0,g1,g2,g3,g4,g5⟩;refine⟨g0,g1,g2,g3,fun y hy=> ?_,g5⟩;rcases List.mem_cons.1 hy with rfl|hy
     ·refine⟨hx0,?_⟩
      cases hra:yao code y with
      |true=>exact .inl rfl
      |false=>
       rw[hra,Bool.not_false,Bool.and_true,Bool.not_eq_false']at hs;rw[List.getD_eq_getElem?_getD]at hs;refine .inr (g5 y ?_);rw[List.getElem?_eq_getElem hxn]at hs⊢;simpa using hs
     ·exact g4 y hy
theorem ybW (code:List In)(k0:Nat):∀(l:List Nat) (seen:List Bool) (todo:List Nat) (q:List Bool×List Nat),(∀x∈l,x<seen.length)→yaZ code k0 l seen todo=some q→ydY q.1+q.2.length≤ydY seen+todo.length
 |[],seen,todo,q,_,h=>by
  rw[yaZ]at h;cases h;exact znc _
 |x::r,seen,todo,q,hl,h=>by
  rw[yaZ]at h;cases hx:(x==k0)with
  |true=>rw[hx]at h;cases h
  |false=>
   rw[hx]at h;simp only[znl]at h;cases hs:(!(seen.getD x false)&& !(yao code x))with
   |false=>
    rw[hs]at h;exact ybW code k0 r seen todo q (fun y hy=>hl y (zme _ hy)) h
   |true=>
    rw[hs]at h;have:=ybW code k0 r _ _ q (fun y hy=>by rw[List.length_set];exact hl y (zme _ hy)) h;simp only[znk,zmh]at this;rw[Bool.and_eq_true,Bool.not_eq_true']at hs;rw[List.getD_eq_getElem?_getD]at hs;have hxl:=hl x (zmf ..);have h3:seen[x]? =some false:=by
     rw[List.getElem?_eq_getElem hxl]at hs⊢;simpa using hs.1
    have:=ydX seen x h3;omega
theorem yeF {code:List In}{k0:Nat}(hr:yao code k0=false)(hcl:∀k x,Way code k0 k∨k=k0→x∈yaq code k→x<code.length):∀(f:Nat) (seen:List Bool) (todo:List Nat),seen.length=code.length→ydY seen+todo.length≤f→Rn code k0 seen todo→(yc6 code k0 f seen todo=true↔Way code k0 k0)
 |f,seen,[],hn,hf,R=>by
  have hne:¬Way code k0 k0:=by
   have cl:∀k,Way code k0 k→k≠k0∧(yao code k=true∨seen[k]? =some true):=fun k h=>by
    generalize hp:k0=p at h
    induction h with
    |one h1 h2=>subst hp;exact(R.ok _ (.inl rfl)).resolve_left (by simp) _ h2
    |more h1 h2 h3 ih=>
     subst hp;have hi:=ih;have:=hi.2.resolve_left (by rw[h2];simp);exact(R.ok _ (.inr this)).resolve_left (by simp) _ h3
   exact fun h=>(cl k0 h).1 rfl
  have hf:yc6 code k0 f seen []=false:=by cases f<;>rfl
  rw[hf];simp[hne]
 |0,seen,k::r,hn,hf,R=>by simp at hf
 |f+1,seen,k::r,hn,hf,R=>by
  rw[yc6];have hk:=R.td k (zmf ..);have hkw:k=k0∨Way code k0 k:=hk.imp id (fun h=>(R.way k h).1);have hkr:yao code k=false:=by
   rcases hk with rfl|h
   ·exact hr
   ·exact(R.way k h).2
  have L:=ycr hr hkw hkr (yaq code k) seen r (fun x hx=>hx) (fun x hx=>by rw[hn];exact hcl k x (hkw.symm) hx) (fun j hj=>R.td j (zme _ hj)) R.way (fun j hj=>by
   rcases R.ok j hj with h|h
   ·rcases List.mem_cons.1 h with h|h
    ·exact .inl h
    ·exact .inr (.inl h)
   ·exact .inr (.inr h))
  have LF:=ybW code k0 (yaq code k) seen r;revert L LF;cases yaZ code k0 (yaq code k) seen r with
  |none=>exact fun L _=>by simp[L]
  |some q=>
   rintro⟨g0,g1,g2,g3,g4,g5⟩ LF;refine yeF hr hcl f q.1 q.2 (g0.trans hn) ?_ ⟨g1,g2,fun j hj=> ?_⟩
   ·have:=LF q (fun x hx=>by rw[hn];exact hcl k x (hkw.symm) hx) rfl
    simp only[List.length_cons]at hf;omega
   ·rcases g3 j hj with rfl|h|h
    ·exact .inr g4
    ·exact .inl h
    ·exact .inr h
theorem yid {code:List In}{k0:Nat}(hcl:∀k x,Way code k0 k∨k=k0→x∈yaq code k→x<code.length):roundL code k0=true↔yao code k0=false∧Way code k0 k0:=by
 unfold roundL;cases hr:yao code k0 with
 |true=>simp
 |false=>
  simp only[znl,true_and];refine yeF hr hcl _ _ _ (by simp) (by rw[ybB];simp) ⟨fun k hk=>.inl (List.mem_singleton.1 hk),fun k hk=> ?_,fun k hk=> ?_⟩
  ·rw[List.getElem?_replicate]at hk
   split at hk<;>cases hk
  ·rcases hk with rfl|hk
   ·exact .inl (by simp)
   ·rw[List.getElem?_replicate]at hk
    split at hk<;>cases hk
theorem Way.rests {code:List In}{p k:Nat}(h:Way code p k):yao code p=false:=by
 induction h with
 |one h _=>exact h
 |more _ _ _ ih=>exact ih
theorem yfC:∀(n:Nat) (l:List Nat),l.Nodup→(∀x∈l,x<n)→l.length≤n
 |0,[],_,_=>znc _
 |0,x::_,_,h=>by have:=h x (zmf ..);omega
 |n+1,l,hd,h=>by
  have h1:=yfC n (l.erase n) (hd.erase n) (fun x hx=>by
   have:=(hd.mem_erase_iff).1 hx;have:=h x this.2;omega)
  by_cases hm:n∈l
  ·rw[List.length_erase_of_mem hm]at h1
   omega
  ·rw[List.erase_of_not_mem hm]at h1
   omega
theorem ydb {code:List In}{Rc:Nat→Prop}(hcl:∀k,Rc k→k<code.length∧∀x∈yaq code k,Rc x)(hno:∀k,Rc k→¬Way code k k):∀(f k:Nat) (P:List Nat),Rc k→P.Nodup→(∀p∈P,p<code.length∧Way code p k)→code.length+1≤P.length+f→dnF code f k
 |0,k,P,_,hd,hP,hl=>by
  have:=yfC _ P hd (fun p hp=>(hP p hp).1);omega
 |f+1,k,P,hk,hd,hP,hl=>by
  rw[dnF];cases hr:yao code k with
  |true=>exact .inl rfl
  |false=>
   refine .inr (fun x hx=>ydb hcl hno f x (k::P) ((hcl k hk).2 x hx) (List.nodup_cons.2 ⟨fun h=>hno k hk (hP k h).2,hd⟩) (fun p hp=> ?_) (by simp only[List.length_cons];omega));rcases List.mem_cons.1 hp with rfl|hp
   ·exact⟨(hcl _ hk).1,.one hr hx⟩
   ·exact⟨(hP p hp).1,.more (hP p hp).2 hr hx⟩
theorem ylJ {code:List In}{Rc:Nat→Prop}(hcl:∀k,Rc k→k<code.length∧∀x∈yaq code k,Rc x)(hno:∀k,Rc k→roundL code k=false){k:Nat}(hk:Rc k):dnF code (code.length+1) k:=by
 have hway:∀{a k},Rc a→Way code a k→Rc k:=fun{a k} ha h=>by
  induction h with
  |one _ h2=>exact(hcl _ ha).2 _ h2
  |more _ _ h3 ih=>exact(hcl _ ih).2 _ h3
 refine ydb hcl (fun j hj hw=> ?_) _ k [] hk List.nodup_nil (fun p hp=>by cases hp) (by simp);have:=(yid (fun k x h hx=>by
  have hk:Rc k:=h.elim (fun h=>hway hj h) (fun h=>by rw[h];exact hj);exact(hcl _ ((hcl _ hk).2 _ hx)).1)).2 ⟨hw.rests,hw⟩
 rw[hno j hj]at this;cases this
def DoneAt (code:List In)(hs:List Int)(most:Int)(k:Nat)(h:Int):Prop:=
 ∃c,code[k]? =some c∧0≤h - yaz c∧h - yaz c+(ofL c.op).1.o≤32∧h - yaz c+(ofL c.op).1.o≤most∧∀x∈followN c k,x<code.length∧hs[x]? =some (h - yaz c+(ofL c.op).1.o)
structure Gr (st st':KSt):Prop where
 keep:∀(j:Nat) (y:Int),st.heights[j]? =some y→0≤y→st'.heights[j]? =some y
 most:st.most≤st'.most
 len:st'.heights.length=st.heights.length
 td:∀j∈st.todo,j∈st'.todo
 new:∀(j:Nat) (y:Int),st'.heights[j]? =some y→0≤y→st.heights[j]? =some y∨j∈st'.todo
theorem Gr.refl (st:KSt):Gr st st:=⟨fun _ _ h _=>h,Int.le_refl _,rfl,fun _ h=>h,fun _ _ h _=>.inl h⟩
theorem Gr.trans {a b c:KSt}(h:Gr a b)(g:Gr b c):Gr a c:=
 ⟨fun j y e l=>g.keep j y (h.keep j y e l) l,Int.le_trans h.most g.most,g.len.trans h.len,fun j hj=>g.td j (h.td j hj),fun j y e l=>by
   rcases g.new j y e l with e2|e2
   ·rcases h.new j y e2 l with e3|e3
    ·exact .inl e3
    ·exact .inr (g.td j e3)
   ·exact .inr e2⟩
theorem DoneAt.grow {code:List In}{st st':KSt}(OK:CodeOk code)(g:Gr st st'){k:Nat}{h:Int}(d:DoneAt code st.heights st.most k h):DoneAt code st'.heights st'.most k h:=by
 obtain⟨c,h1,h2,h3,h4,h5⟩:=d;have ho:=(OK.o c (zmg h1)).1;exact⟨c,h1,h2,h3,Int.le_trans h4 g.most,fun x hx=>⟨(h5 x hx).1,g.keep x _ (h5 x hx).2 (by omega)⟩⟩
theorem yhM {n k:Nat}{h:Int}{st:KSt}(hn:st.heights.length=n)(h0:0≤h):Gr st (comeL n k h st).2∧((comeL n k h st).1=0→k<n∧(comeL n k h st).2.heights[k]? =some h)∧((comeL n k h st).1=0∨(comeL n k h st).1=131∨(comeL n k h st).1=132):=by
 unfold comeL;by_cases hk:n≤k
 ·rw[zno hk]
  simp only[znm];exact⟨Gr.refl _,fun e=>by simp at e,by simp⟩
 ·rw[znd hk]
  simp only[znl];obtain⟨x,hx⟩:∃x,st.heights[k]? =some x:=⟨st.heights[k]'(by omega),by simp⟩;rw[List.getD_eq_getElem?_getD,hx,Option.getD_some];by_cases hl:x<0
  ·rw[zno hl]
   simp only[znm];have hs:(st.heights.set k h)[k]? =some h:=List.getElem?_set_self (by omega);refine⟨⟨fun j y e l=> ?_,Int.le_refl _,by simp,fun j hj=>List.mem_append_left _ hj,fun j y e l=> ?_⟩,fun _=>⟨by omega,hs⟩,by simp⟩
   ·show(st.heights.set k h)[j]? =some y
    rw[List.getElem?_set_ne]
    ·exact e
    ·intro e2
     subst e2;rw[hx]at e;cases e;omega
   ·by_cases e2:k=j
    ·subst e2
     exact .inr (by simp)
    ·left
     have e:(st.heights.set k h)[j]? =some y:=e;rwa[List.getElem?_set_ne e2]at e
  ·rw[znd hl]
   simp only[znl];cases hxh:(x !=h)with
   |true=>exact⟨Gr.refl _,fun e=>by simp at e,by simp⟩
   |false=>
    have:x=h:=by simpa using hxh
    subst this;exact⟨Gr.refl _,fun _=>⟨by omega,hx⟩,by simp⟩
theorem yfO {n:Nat}{h:Int}(h0:0≤h):∀(l:List Nat) {st:KSt},st.heights.length=n→Gr st (ybG n h l st).2∧((ybG n h l st).1=0→∀x∈l,x<n∧(ybG n h l st).2.heights[x]? =some h)∧((ybG n h l st).1=0∨(ybG n h l st).1=131∨(ybG n h l st).1=132)
 |[],st,_=>⟨Gr.refl _,(fun _ x hx=>by cases hx),.inl rfl⟩
 |x::r,st,hn=>by
  obtain⟨g,hg,hc⟩:=yhM (k:=x) hn h0;rw[ybG];cases hz:((comeL n x h st).1 !=0)with
  |true=>
   simp only[znm];exact⟨g,fun e=>by rw[e]at hz;simp at hz,hc⟩
  |false=>
   simp only[znl];have hz0:(comeL n x h st).1=0:=by simpa using hz
   obtain⟨g2,hg2,hc2⟩:=yfO h0 r (st:=(comeL n x h st).2) (g.len.trans hn);refine⟨g.trans g2,fun e y hy=> ?_,hc2⟩;rcases List.mem_cons.1 hy with rfl|hy
   ·exact⟨(hg hz0).1,g2.keep _ _ (hg hz0).2 h0⟩
   ·exact hg2 e y hy
theorem ykB {code:List In}{c:In}{k:Nat}{h:Int}{st:KSt}(OK:CodeOk code)(hc:code[k]? =some c)(hn:st.heights.length=code.length)(hh:st.heights[k]? =some h):
  Gr st (stepL code.length c k st).2∧((stepL code.length c k st).1=0→DoneAt code (stepL code.length c k st).2.heights (stepL code.length c k st).2.most k h)∧((stepL code.length c k st).1=0∨(stepL code.length c k st).1=131∨(stepL code.length c k st).1=132):=by
 have ho:=(OK.o c (zmg hc)).1;unfold stepL;rw[List.getD_eq_getElem?_getD,hh,Option.getD_some];by_cases h1:h - yaz c<0
 ·rw[zno h1]
  exact⟨Gr.refl _,fun e=>by simp at e,by simp⟩
 ·rw[znd h1]
  simp only[znl];by_cases h2:32<h - yaz c+(ofL c.op).1.o
  ·rw[zno h2]
   exact⟨Gr.refl _,fun e=>by simp at e,by simp⟩
  ·rw[znd h2]
   simp only[znl];obtain⟨m,hm⟩:∃m,h - yaz c+(ofL c.op).1.o=m:=⟨_,rfl⟩;rw[hm]at h2⊢;have g0:Gr st {st with most:=max st.most m}:=⟨fun _ _ h _=>h,by show st.most≤max st.most m;omega,rfl,fun _ h=>h,fun _ _ h _=>.inl h⟩;obtain⟨g,hg,hcc⟩:=yfO (n:=code.length) (h:=m) (by omega) (followN c k) (st:={st with most:=max st.most m}) hn;refine⟨g0.trans g,fun e=>⟨c,hc,by omega,by omega,?_,?_⟩,hcc⟩
   ·rw[hm]
    have:=g.most;have:max st.most m≤_:=this;omega
   ·rw[hm]
    exact hg e
theorem yhQ {code:List In}(OK:CodeOk code):∀(f:Nat) (st:KSt),Inv code.length f st→(∀(k:Nat) (h:Int),st.heights[k]? =some h→0≤h→k∈st.todo∨DoneAt code st.heights st.most k h)→
  ((yhR code f st).1.2=0→(yhR code f st).1.1= -1∧(∀(k:Nat) (h:Int),(yhR code f st).2.heights[k]? =some h→0≤h→DoneAt code (yhR code f st).2.heights (yhR code f st).2.most k h)∧(∀(j:Nat) (y:Int),st.heights[j]? =some y→0≤y→(yhR code f st).2.heights[j]? =some y)∧Inv code.length code.length (yhR code f st).2)
 |0,st,I,D=>by
  have ht:st.todo=[]:=by
   have:=I.less;exact List.eq_nil_of_length_eq_zero (by omega)
  rw[yhR];refine fun _=>⟨rfl,fun k h e l=> ?_,fun _ _ h _=>h,⟨I.len,I.all,I.todo,by have:=I.less;show yiw st.heights+st.todo.length≤_;omega,I.m0,I.m1⟩⟩;have:=D k h e l;rw[ht]at this;exact this.resolve_left (by simp)
 |f+1,st,I,D=>by
  rw[yhR];cases ht:st.todo with
  |nil=>
   refine fun _=>⟨rfl,fun k h e l=> ?_,fun _ _ h _=>h,⟨I.len,I.all,I.todo,?_,I.m0,I.m1⟩⟩
   ·have:=D k h e l
    rw[ht]at this;exact this.resolve_left (by simp)
   ·have:∀l:List Int,yiw l≤l.length:=fun l=>by
     induction l with
     |nil=>exact znc _
     |cons x r ih=>rw[yiw,List.length_cons];cases decide (x<0)<;>simp<;>omega
    have:=this st.heights;have:=I.len;rw[ht];simp only[List.length_nil];omega
  |cons k r=>
   obtain⟨h,hh,h0⟩:=I.todo k (by rw[ht];exact zmf ..);have hkl:k<code.length:=by have:=(zge hh).1;have:=I.len;omega
   have hc:code[k]? =some code[k]:=List.getElem?_eq_getElem hkl;generalize code[k]=c at hc;dsimp only;rw[hc];dsimp only;have ho:=OK.o c (zmg hc);obtain⟨g,hd,hcc⟩:=ykB (c:=c) (st:={st with todo:=r}) OK hc I.len hh;have I3:Inv code.length f (stepL code.length c k {st with todo:=r}).2:=yfl (k:=k) (c:=c) (f:=f) ⟨I.len,I.all,fun j hj=>I.todo j (by rw[ht];exact zme _ hj),by have:=I.less;rw[ht]at this;simp only[List.length_cons]at this;show yiw st.heights+r.length≤f;omega,I.m0,I.m1⟩ ho.1;cases hz:((stepL code.length c k {st with todo:=r}).1 !=0)with
   |true=>
    simp only[znm];exact fun e=>by rw[e]at hz;simp at hz
   |false=>
    simp only[znl];have hz0:(stepL code.length c k {st with todo:=r}).1=0:=by simpa using hz
    intro e;obtain⟨b1,b2,b3,b4⟩:=yhQ OK f _ I3 (fun j y e l=>by
     rcases g.new j y e l with e2|e2
     ·by_cases hjk:j=k
      ·subst hjk
       rw[hh]at e2;cases e2;exact .inr (hd hz0)
      ·rcases D j y e2 l with e3|e3
       ·rw[ht]at e3
        rcases List.mem_cons.1 e3 with e4|e4
        ·exact absurd e4 hjk
        ·exact .inl (g.td j e4)
       ·exact .inr (DoneAt.grow OK (st:={st with todo:=r}) g e3)
     ·exact .inl e2) e
    exact⟨b1,b2,fun j y e l=>b3 j y (g.keep j y e l) l,b4⟩
structure Walked (code:List In)(st:KSt):Prop where
 inv:Inv code.length code.length st
 zero:st.heights[0]? =some 0
 done:∀(k:Nat) (h:Int),st.heights[k]? =some h→0≤h→DoneAt code st.heights st.most k h
theorem yfi {code:List In}(OK:CodeOk code)(h:(walkL code).1.2=0):(walkL code).1.1= -1∧Walked code (walkL code).2:=by
 unfold walkL at h⊢;dsimp only at h⊢;have I:=yd8 (n:=code.length) (f:=code.length) (k:=0) (h:=0) (st:=⟨List.replicate code.length (-1),[],0⟩) ⟨by simp,(fun x hx=>by rw[(List.mem_replicate.1 hx).2];omega),(fun k hk=>by cases hk),(by rw[ybK];simp),Int.le_refl 0,(by show(0:Int)≤32;decide)⟩ (by decide) (by decide);obtain⟨g,hg,hc⟩:=yhM (n:=code.length) (k:=0) (h:=0) (st:=⟨List.replicate code.length (-1),[],0⟩) (by simp) (by decide);generalize comeL code.length 0 0 ⟨List.replicate code.length (-1),[],0⟩=q at*;cases hz:(q.1 !=0)with
 |true=>
  rw[hz]at h;simp only[znm]at h;rw[h]at hz;simp at hz
 |false=>
  rw[hz]at h;simp only[znl]at h⊢;have hz0:q.1=0:=by simpa using hz
  obtain⟨b1,b2,b3,b4⟩:=yhQ OK (code.length+1) q.2 ⟨I.len,I.all,I.todo,by have:=I.less;omega,I.m0,I.m1⟩ (fun k y e l=>by
   rcases g.new k y e l with e2|e2
   ·simp only[List.getElem?_replicate]at e2
    split at e2
    ·cases e2
     omega
    ·cases e2
   ·exact .inl e2) h
  exact⟨b1,b4,b3 0 0 (hg hz0).2 (Int.le_refl _),b2⟩
theorem Walked.closed {code:List In}{st:KSt}(w:Walked code st)(OK:CodeOk code):∀k,(∃h,st.heights[k]? =some h∧0≤h)→k<code.length∧∀x∈yaq code k,∃h,st.heights[x]? =some h∧0≤h:=by
 rintro k ⟨h,hh,h0⟩;obtain⟨c,h1,h2,h3,h4,h5⟩:=w.done k h hh h0;have ho:=(OK.o c (zmg h1)).1;refine⟨(zge h1).1,fun x hx=> ?_⟩;unfold yaq at hx;rw[h1]at hx;exact⟨_,(h5 x hx).2,by omega⟩
def ycm (code:List In):Nat→List Int→Option Nat
 |_,[]=>none
 |k,h::r=>bif decide (0≤h)&&roundL code k then some k else ycm code (k+1) r
theorem ycv {code:List In}:∀(l:List Int) (k:Nat),ycm code k l=none→∀(j:Nat) (h:Int),l[j]? =some h→0≤h→roundL code (k+j)=false
 |[],_,_,j,h,hj,_=>by simp at hj
 |y::r,k,hn,j,h,hj,h0=>by
  rw[ycm]at hn;cases hc:(decide (0≤y)&&roundL code k)with
  |true=>rw[hc]at hn;cases hn
  |false=>
   rw[hc]at hn;cases j with
   |zero=>
    simp at hj;subst hj;rw[zno h0]at hc;simpa using hc
   |succ j=>
    have:=ycv r (k+1) hn j h (by simpa using hj) h0;rwa[show k+1+j=k+(j+1) by omega]at this
def ycq (code:List In):Nat→List Int→Nat→Nat
 |_,[],m=>m
 |k,h::r,m=>ycq code (k+1) r (bif decide (0≤h)then max m (spF code (code.length+1) k)else m)
structure Fa where
 heights:List Int
 most:Int
 span:Int
def ym9:Fa:=⟨[],0,0⟩
theorem yce (op:Int):0≤(ofL op).1.i∧(ofL op).1.i≤2∧0≤(ofL op).1.o∧(ofL op).1.o≤2:=by
 by_cases h:0≤op∧op≤32
 ·obtain⟨k,rfl⟩:∃k:Nat,op=k:=⟨op.toNat,by omega⟩
  have H:∀k:Fin 33,0≤(ofL (k.1:Int)).1.i∧(ofL (k.1:Int)).1.i≤2∧0≤(ofL (k.1:Int)).1.o∧(ofL (k.1:Int)).1.o≤2:=by decide+kernel
  exact H ⟨k,by omega⟩
 ·have e:∀j:Int,0≤j→j≤32→(op==j)=false:=fun j h1 h2=>by rw[zna];omega
  simp only[ofL,yck,e 0 (by decide) (by decide),e 1 (by decide) (by decide),e 2 (by decide) (by decide),e 3 (by decide) (by decide),e 4 (by decide) (by decide),e 5 (by decide) (by decide),e 6 (by decide) (by decide),e 7 (by decide) (by decide),e 8 (by decide) (by decide),e 9 (by decide) (by decide),e 10 (by decide) (by decide),e 11 (by decide) (by decide),e 12 (by decide) (by decide),e 13 (by decide) (by decide),e 14 (by decide) (by decide),e 15 (by decide) (by decide),e 16 (by decide) (by decide),e 17 (by decide) (by decide),e 18 (by decide) (by decide),e 19 (by decide) (by decide),e 20 (by decide) (by decide),e 21 (by decide) (by decide),e 22 (by decide) (by decide),e 23 (by decide) (by decide),e 24 (by decide) (by decide),e 25 (by decide) (by decide),e 26 (by decide) (by decide),e 27 (by decide) (by decide),e 28 (by decide) (by decide),e 29 (by decide) (by decide),e 30 (by decide) (by decide),e 31 (by decide) (by decide),e 32 (by decide) (by decide),znl];decide
end Go.Va
namespace Go.Proofs.YtpagmlndgblhhaaGreatDoor
open Go.RowKit Go.Own Go.Own.MapTy Go.Va Go.Sort
open Go.Own.Cells (sz enc)
def ya1 (p:Img):Fa×Int×Int:=
 bif imgL p !=0 then(ym9,-1,imgL p)else
 bif (walkL p.code).1.2 !=0 then(ym9,(walkL p.code).1)else
 match ycm p.code 0 (walkL p.code).2.heights with
 |some k=>(ym9,(k:Int),133)
 |none=>(⟨(walkL p.code).2.heights,(walkL p.code).2.most,(ycq p.code 0 (walkL p.code).2.heights 0:Nat)⟩,-1,0)
theorem yl1 {op:Int}(h:(op==29)=true):(ofL op).1.operand=5:=by
 rw[beq_iff_eq]at h;subst h;rfl
theorem yd9 {p:Img}(h:imgL p=0):CodeOk p.code:=by
 obtain⟨h0,h1,h2,h3,h4,h5,_,_,h6⟩:=ybL h;refine⟨h1,fun c hc=>(h6 c hc).2.1,fun c hc=> ?_,fun c hc=>⟨(yce c.op).2.2.1,(yce c.op).2.2.2⟩⟩;have hb:=yce c.op;obtain⟨_,ha,hm⟩:=h6 c hc;unfold yaz;cases h29:(c.op==29)with
 |false=>simp only[znl];omega
 |true=>
  rw[yl1 h29]at hm;have:mostL p 5=17:=rfl;simp only[znm];omega
end Go.Proofs.YtpagmlndgblhhaaGreatDoor
namespace Go.Own
open Go.RowKit
theorem yeY {P:Program}{t e:TypeId}{i:TypeInfo}(ht:P.underlying t=some (.slice e))(hi:P.info? e=some i)(hz:i.zero=some (.int .i64 0))(hs:i.size=1)(hb:i.bytes=8)(n:Nat)(hn:n≤17592186044416):
  ∃cs:Array Value,(∀W:World,(Instr.makeSlice t (.int .i64 n) (.int .i64 n)).run P W= .ok (.slice (some ⟨W.heap.size,0,none⟩) n n) (W.alloc (.cells cs e)))∧cs.toList=(List.replicate n (0:Int)).flatMap Cells.enc:=by
 refine⟨madeCells (Value.int .i64 0).cells (n*i.size),fun W=> ?_,?_⟩
 ·have:=run_make (P:=P) W t e i (.int .i64 0) ht hi hz .i64 .i64 n n (by omega) (by omega) (by rw[hb];omega) (by omega)
  simpa using this
 ·rw[yhF,hs]
  simp only[Nat.mul_one,Value.cells,List.map_replicate];exact toList_madeCells_one _ _
end Go.Own
namespace Go.Proofs.YtpagmlndgblhhaaGreatDoor
open Go.RowKit Go.Own Go.Own.MapTy Go.Va Go.Sort
open Go.Own.Cells (sz enc)
theorem ymn:(Tryz.prog.info? 3).map (fun i=>(i.zero,i.size,i.bytes))=some (some (.int .i64 0),1,8):=by kernel_rfl
def ynQ (W:World)(r:Fa×Int×Int)(e:Ending)(w':World):Prop:=
 ∃v:Value,e= .returned (.tuple #[.agg #[v,.int .i64 r.1.most,.int .i64 r.1.span],.agg #[.int .i64 r.2.1,.int .i64 r.2.2]])∧Hid (RowAt w' 3 v r.1.heights∧(∀g,v.ownBlock=some g→W.heap.size≤g)∧Below W.heap.size W w')
theorem ycf (w':World)(b1 b2 o1 o2 o3 o5 o6:Nat)(v1 v2 v3 v5 v6:Value):
  Keeps (fun j=>j=b1∨j=b2) w' (((((w'.setCell ⟨b1,o1,none⟩ v1).setCell ⟨b1,o2,none⟩ v2).setCell ⟨b1,o3,none⟩ v3).setCell ⟨b2,o5,none⟩ v5).setCell ⟨b2,o6,none⟩ v6):=by
 have k0:Keeps (fun j=>j=b1∨j=b2) w' w':=Keeps.refl _ _;have k1:=Keeps.setCell (p:=⟨b1,o1,none⟩) k0 (.inl (.inl rfl)) v1;have k2:=Keeps.setCell (p:=⟨b1,o2,none⟩) k1 (.inl (.inl rfl)) v2;have k3:=Keeps.setCell (p:=⟨b1,o3,none⟩) k2 (.inl (.inl rfl)) v3;have k5:=Keeps.setCell (p:=⟨b2,o5,none⟩) k3 (.inl (.inr rfl)) v5;exact Keeps.setCell (p:=⟨b2,o6,none⟩) k5 (.inl (.inr rfl)) v6
structure Res (W w1:World):Prop where
 c0:w1.cell? ⟨W.heap.size+1,0,none⟩=some (.slice none 0 0)
 c1:w1.cell? ⟨W.heap.size+1,1,none⟩=some (.int .i64 0)
 c2:w1.cell? ⟨W.heap.size+1,2,none⟩=some (.int .i64 0)
 c3:w1.cell? ⟨W.heap.size+1+1,0,none⟩=some (.int .i64 0)
 c4:w1.cell? ⟨W.heap.size+1+1,1,none⟩=some (.int .i64 0)
 f0:∀o,w1.frozen? ⟨W.heap.size+1,o,none⟩=false
 f1:∀o,w1.frozen? ⟨W.heap.size+1+1,o,none⟩=false
 l:W.heap.size+1+1<w1.heap.size
theorem Res.keep {S:Nat→Prop}{W w1 w2:World}(R:Res W w1)(K:Keeps S w1 w2)(h1:¬S (W.heap.size+1))(h2:¬S (W.heap.size+1+1)):Res W w2:=by
 have l:=R.l;have l1:W.heap.size+1<w1.heap.size:=by omega
 exact⟨(K.cell (p:=⟨W.heap.size+1,0,none⟩) l1 h1).trans R.c0,(K.cell (p:=⟨W.heap.size+1,1,none⟩) l1 h1).trans R.c1,(K.cell (p:=⟨W.heap.size+1,2,none⟩) l1 h1).trans R.c2,(K.cell (p:=⟨W.heap.size+1+1,0,none⟩) l h2).trans R.c3,(K.cell (p:=⟨W.heap.size+1+1,1,none⟩) l h2).trans R.c4,fun o=>(K.frozen (p:=⟨W.heap.size+1,o,none⟩) l1 h1).trans (R.f0 o),fun o=>(K.frozen (p:=⟨W.heap.size+1+1,o,none⟩) l h2).trans (R.f1 o),znj l K.size⟩
def yox (W9:World)(fb kb2 n:Nat)(code:List In)(hv:Value)(mo:Int)(hs:List Int)(gk:Nat)(v72:Value)(wz:World):Prop:=
 ∃(i m:Nat) (known:List Int),v72= .int .i64 i∧i≤hs.length∧gk=hs.length - i∧m≤600∧ycq code i (hs.drop i) m=ycq code 0 hs 0∧wz.heap[fb]? =some (.cells #[hv,.int .i64 mo,.int .i64 m] 110 (0,0))∧RowAt wz 3 (.slice (some ⟨kb2,0,none⟩) n n) known∧known.length=n∧KN code known∧Keeps (fun j=>j=fb∨j=kb2) W9 wz
theorem KN.zero (code:List In)(n:Nat):KN code (List.replicate n 0):=fun i v h=>by
 rw[List.getElem?_replicate]at h;split at h
 ·cases h
  exact⟨Int.le_refl _,fun h=>absurd h (by decide)⟩
 ·cases h
theorem ykG {w:World}{fb:Nat}{hv:Value}{mo m:Int}{T:TypeId}(h:w.heap[fb]? =some (.cells #[hv,.int .i64 mo,.int .i64 m] T (0,0)))(k:Int):(w.setCell ⟨fb,2,none⟩ (.int .i64 k)).heap[fb]? =some (.cells #[hv,.int .i64 mo,.int .i64 k] T (0,0)):=by
 simp[World.setCell,zni,h]
theorem yh2 (F:Nat→Prop)(i:IC)(p:Img)(W:World)(H:IAt F W i p)(hw:∀x∈p.consts,x.wf)(r:Fa×Int×Int)(hr:ya1 p=r):
  Calls Tryz.prog 51 #[.agg #[.slice i.ca i.cn i.cc,.slice i.ka i.kn i.kc,.slice i.na i.nn i.nc,.int .i64 i.pl]] W (ynQ W r):=by
 have HI:=zhd (H.mono (G:=fun j=>j<W.heap.size) (fun g _ hl=>hl));have hlen:=H.lens.1;unfold ya1 at hr;have hok:= @yd9 p;have IC2:=zhd (fun W' (K:Below W.heap.size W W')=>yc9 F W' i p (H.keep (S:=fun _=>False) (zkb K) (fun _ _ f=>f)) _ hw rfl);generalize imgL p=ie at*;obtain⟨ca,cn,cc,ka,kn,kc,na,nn,nc,pl⟩:=i;dsimp only at hlen IC2 HI;dsimp only;clear H;have HR:=zh3 hr hok hlen;clear hr hok hlen;go_enter Tryz.func51,Tryz.ntmps51;go_wp2_with fail;obtain⟨W3,hW3⟩:∃W3,W3=((W.alloc (.cells #[.slice ca cn cc,.slice ka kn kc,.slice na nn nc,.int .i64 pl] 28)).alloc (.cells #[.slice none 0 0,.int .i64 0,.int .i64 0] 110)).alloc (.cells #[.int .i64 0,.int .i64 0] 112):=⟨_,rfl⟩;have B3:Below W.heap.size W W3:=by rw[hW3];exact((zal).alloc (by simp) _).alloc (by simp;omega) _
 have b0:W3.heap[W.heap.size]? =some (.cells #[.slice ca cn cc,.slice ka kn kc,.slice na nn nc,.int .i64 pl] 28 (0,0)):=by
  rw[hW3];exact(zne _ _ _ (by simp;omega)).trans ((zne _ _ _ (by simp)).trans (znb W _))
 have b1:W3.heap[W.heap.size+1]? =some (.cells #[.slice none 0 0,.int .i64 0,.int .i64 0] 110 (0,0)):=by
  rw[hW3];exact(zne _ _ _ (by simp)).trans yar
 have b2:W3.heap[W.heap.size+1+1]? =some (.cells #[.int .i64 0,.int .i64 0] 112 (0,0)):=by
  rw[hW3];have:=znb ((W.alloc (.cells #[.slice ca cn cc,.slice ka kn kc,.slice na nn nc,.int .i64 pl] 28)).alloc (.cells #[.slice none 0 0,.int .i64 0,.int .i64 0] 110)) (.cells #[.int .i64 0,.int .i64 0] 112);simpa using this
 have hsz3:W3.heap.size=W.heap.size+3:=by rw[hW3];simp
 have R3:Res W W3:=⟨by rw[zch b1];rfl,by rw[zch b1];rfl,by rw[zch b1];rfl,by rw[zch b2];rfl,by rw[zch b2];rfl,fun o=>zfr b1 o,fun o=>zfr b2 o,by omega⟩;rw[←hW3];have H3:=zh4 B3 R3 b0 hsz3;clear hW3 B3 R3 b0 b1 b2 hsz3;refine(IC2.o _ H3.o.1).mono ?_;rintro e w4 ⟨rfl,hB4⟩;have RS4:=H3.o.2.1.keep (zkb hB4 (S:=fun _=>False)) (fun f=>f) (fun f=>f);have B4:=H3.o.1.trans (hB4.mono H3.o.1.size);have b0:=(hB4.block W.heap.size (by have:=H3.o.2.2.2;omega)).trans H3.o.2.2.1;have H4:=zh4 hB4 RS4 B4 b0;have q0:=zca b0 0 rfl;have l0:W.heap.size<w4.heap.size:=zlt b0;clear hB4 RS4 B4 b0 IC2;cases hz:(ie !=0)with
 |true=>
  have hr:=HR.o.1;rw[hz]at hr;simp only[znm]at hr;subst hr;obtain⟨c0,c1,c2,c3,c4,f0,f1,l2⟩:=H4.o.2.1;have l1:W.heap.size+1<w4.heap.size:=by omega
  have BB:=zhd (H4.o.2.2.1.trans ((ycf w4 (W.heap.size+1) (W.heap.size+1+1) 0 1 2 0 1 (.slice none 0 0) (.int .i64 0) (.int .i64 0) (.int .i64 (-1)) (.int .i64 ie)).below (by omega) (fun j hj e=>by omega)));go_wp2_with fail;exact zng (v:=.tuple #[.agg #[.slice none 0 0,.int .i64 0,.int .i64 0],.agg #[.int .i64 (-1),.int .i64 ie]]) (by simp only[results,Tryz.results51];go_simp) rfl ⟨.slice none 0 0,rfl,zhd ⟨RowAt.nil _ _,(fun g h=>by cases h),BB.o⟩⟩
 |false=>
  have hr:=HR.o.1;rw[hz]at hr;simp only[znl]at hr;have OK:=HR.o.2.1 (by simpa using hz);have HOK:=zhd OK;have HR2:=zhd hr;clear hr OK;go_wp2_with fail;obtain⟨W5,hW5⟩:∃W5,W5=w4.alloc (.cells #[.slice ca cn cc,.slice none 0 0,.slice none 0 0,.int .i64 0] 177):=⟨_,rfl⟩;have hkb:=zha hW5;have B5:=zba hW5;have KX5:KX W5 w4.heap.size (.slice ca cn cc) ⟨.slice none 0 0,.slice none 0 0⟩ ⟨[],[],0⟩:=⟨hkb,RowAt.nil _ _,RowAt.nil _ _,(fun j h=>by cases h),(fun j h=>by cases h),fun j h=>by
   rcases h with h|h|h
   ·omega
   ·cases h
   ·cases h⟩
  rw[←hW5];have HC5:=(HI.o.keep (S:=fun _=>False) (zkb (H4.o.2.2.1.trans (B5.mono (zmn l0)))) (fun _ _ f=>f)).code;obtain⟨q,hq⟩:∃q,walkL p.code=q:=⟨_,rfl⟩;have WK:=zhd (yjH w4.heap.size _ (fun j hj=>Nat.lt_trans hj l0) ca cn cc p.code W5 KX5 HC5 HOK.o q hq);have H5:=zh3 B5 HC5 (H4.o.2.1.keep (zkb B5 (S:=fun _=>False)) (fun f=>f) (fun f=>f));have HW:=zhd (show q.1.2=0→q.1.1= -1∧Walked p.code q.2 from fun h=>by rw[←hq]at h⊢;exact yfi HOK.o h);have hr:=HR2.o;rw[hq]at hr;have HR3:=zhd hr;clear hW5 hkb B5 KX5 HC5 hq hr HR2 q0;refine WK.o.mono ?_;rintro e w6 ⟨v6,rfl,H6⟩;have RS6:=H5.o.2.2.keep H6.o.2.1 (fun e=>by have:=H4.o.2.1.l;rcases e with e|e|e;omega;cases e;cases e) (fun e=>by have:=H4.o.2.1.l;rcases e with e|e|e;omega;cases e;cases e);have HRS:=zhd RS6;have B6:=H4.o.2.2.1.trans ((H5.o.1.mono (zmn l0)).trans (H6.o.2.1.below (B:=W.heap.size) (by have:=H5.o.1.size;omega) (fun j hj e=>by rcases e with e|e|e;omega;cases e;cases e)));have HB6:=zhd B6;clear WK RS6 B6;cases hz2:(q.1.2 !=0)with
  |true=>
   have hr:=HR3.o;rw[hz2]at hr;simp only[znm]at hr;subst hr;go_wp2_with fail;obtain⟨w7,hw7⟩:∃w7,w7=w6.alloc (.cells #[.int .i64 q.1.1,.int .i64 q.1.2] 112):=⟨_,rfl⟩;have b7:=zha hw7;have B7:=zba hw7;rw[←hw7];obtain⟨c0,c1,c2,c3,c4,f0,f1,l2⟩:=HRS.o.keep (zkb B7 (S:=fun _=>False)) (fun f=>f) (fun f=>f);have l1:W.heap.size+1<w7.heap.size:=by omega
   have x0:=zca b7 0 rfl;have x1:=zca b7 1 rfl;have l7:w6.heap.size<w7.heap.size:=zlt b7;have d1:¬w6.heap.size=W.heap.size+1:=by have:=HRS.o.l;omega
   have d2:¬w6.heap.size=W.heap.size+1+1:=by have:=HRS.o.l;omega
   have BB:=zhd ((HB6.o.trans (B7.mono HB6.o.size)).trans ((ycf w7 (W.heap.size+1) (W.heap.size+1+1) 0 1 2 0 1 (.slice none 0 0) (.int .i64 0) (.int .i64 0) (.int .i64 q.1.1) (.int .i64 q.1.2)).below (by omega) (fun j hj e=>by omega)));clear hw7 b7 B7;go_region;go_wp2_with fail;exact zng (v:=.tuple #[.agg #[.slice none 0 0,.int .i64 0,.int .i64 0],.agg #[.int .i64 q.1.1,.int .i64 q.1.2]]) (by simp only[results,Tryz.results51];go_simp) rfl ⟨.slice none 0 0,rfl,zhd ⟨RowAt.nil _ _,(fun g h=>by cases h),BB.o.drew⟩⟩
  |false=>
   have hz20:q.1.2=0:=by simpa using hz2
   obtain⟨hq1,hwd⟩:=HW.o hz20;have hr:=HR3.o;rw[hz2]at hr;simp only[znl]at hr;obtain⟨⟨qa,qb⟩,st⟩:=q;dsimp only at hz20 hq1;subst hz20;subst hq1;dsimp only at hwd H6 hr;have WD:=zhd hwd;have HR4:=zhd hr;have hcl:=zhd (hwd.closed HOK.o);clear hr hwd HR3 HW hz2;obtain⟨vh,vt⟩:=v6;obtain⟨ha,hc,rfl⟩:∃a cap,vh= .slice a st.heights.length cap:=H6.o.1.heights.slice;obtain⟨hs,hhs⟩:∃hs,hs=st.heights:=⟨_,rfl⟩;rw[←hhs]at H6 HR4;have qq:∀o,w6.cell? ⟨w4.heap.size,o,none⟩=(#[.slice ca cn cc,.slice ha hs.length hc,vt,.int .i64 st.most]:Array Value)[o]? :=fun o=>by rw[zch H6.o.1.h]
   have k0:=qq 0;have k1:=qq 1;have k3:=qq 3;simp only[zmc,zma,zmb]at k0 k1 k3;have lk:w4.heap.size<w6.heap.size:=zlt H6.o.1.h;have hsn:hs.length=p.code.length:=by rw[hhs];exact WD.o.inv.len
   have hn5:p.code.length≤512:=HOK.o.len;have HN:=zh3 hsn hn5 hhs;have RH:=H6.o.1.heights;rw[←hhs]at RH;have HRH:=zhd RH;clear qq hsn hn5 RH hhs;go_wp2_with fail;obtain⟨w7,hw7⟩:∃w7,w7=w6.alloc (.cells #[.int .i64 (-1),.int .i64 0] 112):=⟨_,rfl⟩;have B7:=zba hw7;rw[←hw7];have k0:=(B7.cell (p:=⟨w4.heap.size,0,none⟩) lk).trans k0;have k1:=(B7.cell (p:=⟨w4.heap.size,1,none⟩) lk).trans k1;have k3:=(B7.cell (p:=⟨w4.heap.size,3,none⟩) lk).trans k3;have l7:=B7.size;have H7:=zh4 B7 (HB6.o.trans (B7.mono HB6.o.size)) (HRS.o.keep (zkb B7 (S:=fun _=>False)) (fun f=>f) (fun f=>f)) (HRH.o.below B7);have lk7:w4.heap.size<w7.heap.size:=znj lk l7;clear hw7 B7 lk l7;go_loopg [36] (hs.length) (fun gk v36 wr=>∃i:Nat,v36= .int .i64 i∧i≤hs.length∧gk=hs.length - i∧ycm p.code i (hs.drop i)=ycm p.code 0 hs∧Below w7.heap.size w7 wr)
   case atStart=>exact⟨0,rfl,znq _,rfl,rfl,znv _ _⟩
   case round=>
    obtain⟨i,rfl,hi,hgk,hfr,hB⟩:=hrel;have BW:=H7.o.2.1.trans (hB.mono H7.o.2.1.size);have k0r:=(hB.cell (p:=⟨w4.heap.size,0,none⟩) lk7).trans k0;have k1r:=(hB.cell (p:=⟨w4.heap.size,1,none⟩) lk7).trans k1;have k3r:=(hB.cell (p:=⟨w4.heap.size,3,none⟩) lk7).trans k3;have lkr:w4.heap.size<wr.heap.size:=znj lk7 hB.size;have RR:=H7.o.2.2.2.below hB;by_cases hin:i<hs.length
    ·obtain⟨x,hx⟩:=yad hin
     have hdr:hs.drop i=x::hs.drop (i+1):=by
      rw[znr (zge hx).1,(zge hx).2]
     rw[hdr,ycm]at hfr;obtain⟨g,off,rfl,hg⟩:=RR.addr hx;have m0:=ycR RR hx;have hin':(i:Int)<hs.length:=by omega
     have hwi:IntKind.i64.wrap ((i:Int)+1)=(i:Int)+1:=zmk _ (by have:=HN.o.1;have:=HN.o.2.1;omega);cases hz3:decide (0≤x)with
     |false=>
      have e0:¬0≤x:=zny hz3;rw[hz3]at hfr;simp only[Bool.false_and,znl]at hfr;have HX:=zh3 hfr hgk hB;clear hfr hgk hB BW RR hdr hx k0r k1r k3r;go_wp2_with fail;go_roundg (hs.length - (i+1))
      case measure=>have:=HX.o.2.1;omega
      case rel=>exact⟨i+1,by simp,by omega,rfl,HX.o.1,HX.o.2.2⟩
     |true=>
      have e0:0≤x:=znx hz3;rw[hz3]at hfr;simp only[Bool.true_and]at hfr;have RO:=zhd (yjh w4.heap.size _ ca cn cc p.code wr k0r lkr (HI.o.keep (S:=fun _=>False) (zkb BW) (fun _ _ f=>f)).code HOK.o (fun k=>∃h,st.heights[k]? =some h∧0≤h) hcl.o i ⟨x,by rw[←HN.o.2.2];exact hx,e0⟩ _ rfl);generalize roundL p.code i=rl at*;have HX:=zh4 hfr hgk hB BW;clear hfr hgk hB BW RR hdr hx k0r k1r k3r;go_wp2_with fail;refine RO.o.mono ?_;rintro e w8 ⟨rfl,hB8⟩;have H8:=zhd hB8;have hRS:=H7.o.2.2.1.keep (zkb (HX.o.2.2.1.trans (hB8.mono HX.o.2.2.1.size)) (S:=fun _=>False)) (fun f=>f) (fun f=>f);clear hB8 RO;cases rl with
      |true=>
       have hf:=HX.o.1;simp only[znm]at hf;have hr:=HR4.o;rw[←hf]at hr;subst hr;obtain⟨c0,c1,c2,c3,c4,f0,f1,l2⟩:=hRS;have l1:W.heap.size+1<w8.heap.size:=by omega
       have BB:=zhd ((HX.o.2.2.2.trans (H8.o.mono HX.o.2.2.2.size)).trans ((ycf w8 (W.heap.size+1) (W.heap.size+1+1) 0 1 2 0 1 (.slice none 0 0) (.int .i64 0) (.int .i64 0) (.int .i64 i) (.int .i64 133)).below (by omega) (fun j hj e=>by omega)));clear hf;go_wp2_with fail;exact zng (v:=.tuple #[.agg #[.slice none 0 0,.int .i64 0,.int .i64 0],.agg #[.int .i64 i,.int .i64 133]]) (by simp only[results,Tryz.results51];go_simp) rfl ⟨.slice none 0 0,rfl,zhd ⟨RowAt.nil _ _,(fun g h=>by cases h),BB.o⟩⟩
      |false=>
       have hf:=HX.o.1;simp only[znl]at hf;have HF:=zhd hf;clear hf hRS;go_wp2_with fail;go_roundg (hs.length - (i+1))
       case measure=>have:=HX.o.2.1;omega
       case rel=>exact⟨i+1,by simp,by omega,rfl,HF.o,HX.o.2.2.1.trans (H8.o.mono HX.o.2.2.1.size)⟩
    ·obtain rfl:i=hs.length:=by omega
     obtain⟨wo,rfl⟩:∃wo:World,wo=wr:=⟨_,rfl⟩;rw[zns (znc _),ycm]at hfr;have hr:=HR4.o;rw[←hfr]at hr;subst hr;have hno:=zhd (show∀k,(∃h,st.heights[k]? =some h∧0≤h)→roundL p.code k=false from fun k ⟨h,hh,h0⟩=>by
      have:=ycv hs 0 hfr.symm k h (by rw[HN.o.2.2];exact hh) h0;rwa[Nat.zero_add]at this)
     have hdn:=zhd (fun k hk=>ylJ hcl.o hno.o (k:=k) hk);have hRS:=zhd (H7.o.2.2.1.keep (zkb hB (S:=fun _=>False)) (fun f=>f) (fun f=>f));have HX:=zh2 BW RR;obtain⟨ti,hti,tz,ts,tb⟩:=info_parts ymn;obtain⟨cs,hmk,hcs⟩:=yeY (P:=Tryz.prog) (t:=79) Tryz.underlying79 hti tz ts tb cn (by have:=HR.o.2.2;have:=HN.o.2.1;omega);have HCS:=zhd hcs;clear hfr hgk hB BW RR k0 k1 k3 hti tz ts tb hcs;go_wp2_with fail;go_region;go_wp2_with fail;obtain⟨w9,hw9⟩:∃w9,w9=((wo.alloc (.cells #[.slice ha hs.length hc,.int .i64 st.most,.int .i64 0] 110)).alloc (.cells cs 3)).drew:=⟨_,rfl⟩;have B9:Below wo.heap.size wo w9:=by rw[hw9];exact((zal).alloc (by simp) _).drew
     have fb:w9.heap[wo.heap.size]? =some (.cells #[.slice ha hs.length hc,.int .i64 st.most,.int .i64 0] 110 (0,0)):=by rw[hw9];exact yaE
     have kr:RowAt w9 3 (.slice (some ⟨wo.heap.size+1,0,none⟩) cn cn) (List.replicate cn (0:Int)):=by rw[hw9];exact(RowAt.made yar HCS.o (by simp) (by have:=HR.o.2.2;have:=HN.o.2.1;unfold maxLen;omega)).drew
     have sz9:w9.heap.size=wo.heap.size+2:=by rw[hw9];simp
     rw[←hw9];have H9:=zh5 B9 fb kr sz9 k0r;clear hw9 B9 fb kr sz9 k0r k1r k3r hmk;go_loopg [72] (hs.length) (fun gk v72 wr=>yox w9 wo.heap.size (wo.heap.size+1) cn p.code (.slice ha hs.length hc) st.most hs gk v72 wr)
     case atStart=>exact⟨0,0,_,rfl,znq _,rfl,znq _,rfl,H9.o.2.1,H9.o.2.2.1,by simp,KN.zero _ _,Keeps.refl _ _⟩
     case round=>
      obtain⟨i,m,known,rfl,hi,hgk,hm,hsp,hfb,hkr,hkl,hKN,hK⟩:=hrel;have hRS2:=zhd ((hRS.o.keep (zkb H9.o.1 (S:=fun _=>False)) (fun f=>f) (fun f=>f)).keep hK (fun e=>by have:=hRS.o.l;omega) (fun e=>by have:=hRS.o.l;omega));have RRz:=(HX.o.2.below H9.o.1).keep hK (fun g hg e=>by have:=HX.o.2.lt hg;omega);by_cases hin:i<hs.length
      ·obtain⟨x,hx⟩:=yad hin
       have hdr:hs.drop i=x::hs.drop (i+1):=by
        rw[znr (zge hx).1,(zge hx).2]
       rw[hdr,ycq]at hsp;obtain⟨g,off,rfl,hg⟩:=RRz.addr hx;have m0:=ycR RRz hx;have hin':(i:Int)<hs.length:=by omega
       have hwi:IntKind.i64.wrap ((i:Int)+1)=(i:Int)+1:=zmk _ (by have:=HN.o.1;have:=HN.o.2.1;omega);cases hz3:decide (0≤x)with
       |false=>
        have e0:¬0≤x:=zny hz3;rw[hz3]at hsp;simp only[znl]at hsp;have HZ:=zh6 hsp hgk hfb hkr hKN hK;clear hsp hgk hfb hkr hKN hK RRz hdr hx;go_wp2_with fail;go_roundg (hs.length - (i+1))
        case measure=>have:=HZ.o.2.1;omega
        case rel=>exact⟨i+1,m,known,by simp,by omega,rfl,hm,HZ.o.1,HZ.o.2.2.1,HZ.o.2.2.2.1,hkl,HZ.o.2.2.2.2.1,HZ.o.2.2.2.2.2⟩
       |true=>
        have e0:0≤x:=znx hz3;rw[hz3]at hsp;simp only[znm]at hsp;have hRi:∃h,st.heights[i]? =some h∧0≤h:=⟨x,by rw[←HN.o.2.2];exact hx,e0⟩;have KW:=Keeps.trans (S:=fun j=>wo.heap.size≤j) (T:=fun j=>j=wo.heap.size∨j=wo.heap.size+1) ((zkb H9.o.1 (S:=fun _=>False)).mono (fun _ _ f=>f.elim)) hK (fun j hj e=>by omega);have kz:=(KW.cell (p:=⟨w4.heap.size,0,none⟩) lkr (by show¬wo.heap.size≤w4.heap.size;omega)).trans H9.o.2.2.2.2;have lkz:w4.heap.size<wr.heap.size:=znj lkr KW.size;have HCz:=(HI.o.keep (S:=fun _=>False) (zkb HX.o.1) (fun _ _ f=>f)).keep KW (fun g hg e=>by have:=HX.o.1.size;omega);have CS:=zhd (fun W' (K:Below wr.heap.size wr W')=>ykD w4.heap.size (fun j=>j<W.heap.size) ca cn cc p.code HOK.o (fun k=>∃h,st.heights[k]? =some h∧0≤h) hcl.o (wo.heap.size+1) 0 cn (by omega) (fun j hj=>by have:=HX.o.1.size;omega) (p.code.length+1) i W' known (by have:=HN.o.2.1;omega) (hdn.o i hRi) hRi ((K.cell (p:=⟨w4.heap.size,0,none⟩) lkz).trans kz) (znj lkz K.size) (HCz.keep (S:=fun _=>False) (zkb K) (fun _ _ f=>f)).code (hkr.below K) hkl hKN);have hle:=yfm p.code (p.code.length+1) i
        generalize spF p.code (p.code.length+1) i=s at*;have p2:=zca hfb 2 rfl;have lf:wo.heap.size<wr.heap.size:=zlt hfb;have hmx:max (m:Int) (s:Int)=((max m s:Nat):Int):=by omega
        have HM:=zhd hmx;have HZ:=zh5 hsp hgk hfb hK KW;clear hsp hgk hfb hkr hKN hK KW RRz hdr hx hRi kz HCz hmx;go_wp2_with fail;go_region_law
         ((go_simp;go_at_call 97;refine(CS.o _ ((znv _ _).drew)).mono ?_;rintro e w8 ⟨rfl,H8⟩;obtain⟨kn',g1,g2,g3,g4⟩:=H8.o;have hb8:=(g4.block wo.heap.size lf (by omega)).trans HZ.o.2.2.1;have y2:w8.cell? ⟨wo.heap.size,2,none⟩=some (.int .i64 m):=(by rw[zch hb8];rfl);have fy:∀o,w8.frozen? ⟨wo.heap.size,o,none⟩=false:=(fun o=>zfr hb8 o);have ly:wo.heap.size<w8.heap.size:=(zlt hb8);have HG:=zh5 g1 g2 g3 (((Keeps.refl (fun j=>j=wo.heap.size+1) wr).drew).comp g4) hb8;clear g1 g2 g3 g4 hb8))
        all_goals
         go_wp2_with fail;go_roundg (hs.length - (i+1))
         case measure=>have:=HZ.o.2.1;omega
         refine⟨i+1,max m s,kn',by simp,by omega,rfl,by have:=HN.o.2.1;omega,HZ.o.1,?_,HG.o.1.keep (Keeps.setCell (S:=fun j=>j=wo.heap.size) (p:=⟨wo.heap.size,2,none⟩) (Keeps.refl _ _) (.inl rfl) _) (fun g hg e=>by have h1:wo.heap.size+1=g:=Option.some.inj hg;omega),HG.o.2.1,HG.o.2.2.1,?_⟩
         ·rw[←HM.o]
          exact ykG HG.o.2.2.2.2 _
         ·exact(HZ.o.2.2.2.1.trans (T:=fun j=>j=wo.heap.size+1) (HG.o.2.2.2.1) (fun j _ e=>.inr e)).trans (T:=fun j=>j=wo.heap.size) (Keeps.setCell (S:=fun j=>j=wo.heap.size) (p:=⟨wo.heap.size,2,none⟩) (Keeps.refl _ _) (.inl rfl) _) (fun j _ e=>.inl e)
      ·obtain rfl:i=hs.length:=by omega
       rw[zns (znc _),ycq]at hsp;have e0:=zca hfb 0 rfl;have e1:=zca hfb 1 rfl;have e2:=zca hfb 2 rfl;have lf:wo.heap.size<wr.heap.size:=zlt hfb;have d1:¬wo.heap.size=W.heap.size+1:=by have:=hRS.o.l;omega
       have d2:¬wo.heap.size=W.heap.size+1+1:=by have:=hRS.o.l;omega
       have Bz:Below W.heap.size W wr:=HX.o.1.trans ((H9.o.1.mono HX.o.1.size).trans (hK.below (by have:=HX.o.1.size;have:=H9.o.1.size;omega) (fun j hj e=>by have:=HX.o.1.size;omega)));have HZ:=zh3 hsp Bz RRz;clear hsp Bz RRz hfb hkr hKN hK hgk;obtain⟨c0,c1,c2,c3,c4,f0,f1,l2⟩:=hRS2.o;have l1:W.heap.size+1<wr.heap.size:=by omega
       have KF:=ycf wr (W.heap.size+1) (W.heap.size+1+1) 0 1 2 0 1 (.slice ha hs.length hc) (.int .i64 st.most) (.int .i64 m) (.int .i64 (-1)) (.int .i64 0);have BB:=zh2 (HZ.o.2.1.trans (KF.below (by omega) (fun j hj e=>by omega))) (HZ.o.2.2.keep KF (fun g hg e=>by have:=H6.o.1.lo g (.inr (.inl hg));have:=H4.o.2.1.l;omega));clear KF;go_wp2_with fail;exact zng (v:=.tuple #[.agg #[.slice ha hs.length hc,.int .i64 st.most,.int .i64 m],.agg #[.int .i64 (-1),.int .i64 0]]) (by simp only[results,Tryz.results51];go_simp) rfl ⟨.slice ha hs.length hc,by rw[←HZ.o.1],zhd ⟨BB.o.2,(fun g hg=>by have:=H6.o.1.lo g (.inr (.inl hg));have:=H4.o.2.1.l;omega),BB.o.1⟩⟩
end Go.Proofs.YtpagmlndgblhhaaGreatDoor
namespace Go.Va
open Go.Own
theorem yhi {code:List In}{B:Nat}:∀(l:List Int) (k m:Nat),m≤B→(∀(j:Nat) (h:Int),l[j]? =some h→0≤h→spF code (code.length+1) (k+j)≤B)→ycq code k l m≤B
 |[],_,_,hm,_=>hm
 |y::r,k,m,hm,h=>by
  rw[ycq];refine yhi r (k+1) _ ?_ (fun j hh hj h0=> ?_)
  ·by_cases h0:0≤y
   ·rw[zno h0]
    have:=h 0 y rfl h0;rw[Nat.add_zero]at this;exact Nat.max_le.2 ⟨hm,this⟩
   ·rw[znd h0]
    exact hm
  ·have:=h (j+1) hh (by simpa using hj) h0
   rwa[show k+(j+1)=k+1+j by omega]at this
theorem yhj {code:List In}:∀(l:List Int) (k m:Nat),m≤ycq code k l m
 |[],_,_=>znc _
 |y::r,k,m=>by
  rw[ycq];refine znf ?_ (yhj (code:=code) r (k+1) _);cases decide (0≤y)
  ·exact znc _
  ·exact Nat.le_max_left ..
theorem yhk {code:List In}:∀(l:List Int) (k m j:Nat) (h:Int),l[j]? =some h→0≤h→spF code (code.length+1) (k+j)≤ycq code k l m
 |[],_,_,_,_,h,_=>by simp at h
 |y::r,k,m,0,h,hh,h0=>by
  simp at hh;subst hh;rw[ycq,zno h0];have:=yhj (code:=code) r (k+1) (max m (spF code (code.length+1) k));exact znf (Nat.le_max_right ..) this
 |y::r,k,m,j+1,h,hh,h0=>by
  rw[ycq,show k+(j+1)=k+1+j by omega];exact yhk r (k+1) _ j h (by simpa using hh) h0
end Go.Va
namespace Go.Proofs.YtpagmlndgblhhaaGreatDoor
open Go.RowKit Go.Own Go.Own.MapTy Go.Va Go.Sort
open Go.Own.Cells (sz enc)
structure Known (p:Img)(fa:Fa):Prop where
 img:imgL p=0
 len:fa.heights.length=p.code.length
 zero:fa.heights[0]? =some 0
 most:0≤fa.most
 low:∀(k:Nat) (h:Int),fa.heights[k]? =some h→ -1≤h∧h≤32
 done:∀(k:Nat) (h:Int),fa.heights[k]? =some h→0≤h→DoneAt p.code fa.heights fa.most k h
 dn:∀(k:Nat) (h:Int),fa.heights[k]? =some h→0≤h→dnF p.code (p.code.length+1) k
 span:∀(k:Nat) (h:Int),fa.heights[k]? =some h→0≤h→((spF p.code (p.code.length+1) k:Nat):Int)≤fa.span
theorem yc1 {p:Img}{fa:Fa}{a e:Int}(h:ya1 p=(fa,a,e)):(e≠0→fa=ym9)∧(e=0→a= -1∧Known p fa):=by
 unfold ya1 at h;cases h1:(imgL p !=0)with
 |true=>
  rw[h1]at h;simp only[znm,Prod.mk.injEq]at h;exact⟨fun _=>h.1.symm,fun e0=>by rw[←h.2.2]at e0;rw[e0]at h1;cases h1⟩
 |false=>
  have hi:imgL p=0:=by simpa using h1
  have OK:=yd9 hi;rw[h1]at h;simp only[znl]at h;cases h2:((walkL p.code).1.2 !=0)with
  |true=>
   rw[h2]at h;simp only[znm,Prod.mk.injEq]at h;have h5:(walkL p.code).1.2=e:=congrArg Prod.snd h.2;exact⟨fun _=>h.1.symm,fun e0=>by rw[h5,e0]at h2;cases h2⟩
  |false=>
   rw[h2]at h;simp only[znl]at h;obtain⟨_,WD⟩:=yfi OK (by simpa using h2);generalize(walkL p.code).2=st at h WD;cases h3:ycm p.code 0 st.heights with
   |some k=>
    rw[h3]at h;simp only[Prod.mk.injEq]at h;exact⟨fun _=>h.1.symm,fun e0=>by have:=h.2.2;omega⟩
   |none=>
    rw[h3]at h;simp only[Prod.mk.injEq]at h;obtain⟨h4,h5,h6⟩:=h;refine⟨fun e0=>absurd h6.symm e0,fun _=>⟨h5.symm,?_⟩⟩;subst h4;have hcl:=WD.closed OK;have hno:∀k,(∃h,st.heights[k]? =some h∧0≤h)→roundL p.code k=false:=fun k ⟨h,hh,h0⟩=>by
     have:=ycv st.heights 0 h3 k h hh h0;rwa[Nat.zero_add]at this
    exact⟨hi,WD.inv.len,WD.zero,WD.inv.m0,fun k h hh=>WD.inv.all h (zmg hh),WD.done,fun k h hh h0=>ylJ hcl hno ⟨h,hh,h0⟩,fun k h hh h0=>by
     have:=yhk (code:=p.code) st.heights 0 0 k h hh h0;rw[Nat.zero_add]at this;show _≤((ycq p.code 0 st.heights 0:Nat):Int);omega⟩
theorem Known.step {p:Img}{fa:Fa}(K:Known p fa){k:Nat}{h run:Int}(hh:fa.heights[k]? =some h)(h0:0≤h)(hr:run+((spF p.code (p.code.length+1) k:Nat):Int)≤fa.span):
  ∃c,p.code[k]? =some c∧(ofL c.op).2=true∧0≤c.a∧c.a≤512∧0≤yaz c∧yaz c≤512∧0≤(ofL c.op).1.o∧(ofL c.op).1.o≤2∧yaz c≤h∧run+1≤fa.span∧
   ∀x∈followN c k,x<p.code.length∧∃h',h'=h+((ofL c.op).1.o - yaz c)∧fa.heights[x]? =some h'∧0≤h'∧h'≤fa.most∧(bif restsL c then 0 else run+1)+((spF p.code (p.code.length+1) x:Nat):Int)≤fa.span:=by
 obtain⟨c,h1,h2,h3,h4,h5⟩:=K.done k h hh h0;have OK:=yd9 K.img;have hcm:=zmg h1;obtain⟨i1,i2,_,_,_,_,_,_,hco⟩:=ybL K.img;obtain⟨o1,o2,o3⟩:=hco c hcm;have hm:mostL p (ofL c.op).1.operand≤513:=by
  unfold mostL;obtain⟨_,_,m3,m4,m5,m6,_,_,_⟩:=ybL K.img;cases((ofL c.op).1.operand==1)<;>cases((ofL c.op).1.operand==2)<;>cases((ofL c.op).1.operand==3)<;>cases((ofL c.op).1.operand==4)<;>cases((ofL c.op).1.operand==5)<;>simp<;>omega
 have hpos:=yja (K.dn k h hh h0);refine⟨c,h1,o1,o2,by omega,(OK.tk c hcm).1,(OK.tk c hcm).2,(OK.o c hcm).1,(OK.o c hcm).2,by omega,by omega,fun x hx=> ?_⟩;obtain⟨hxl,hxh⟩:=h5 x hx;have ho:=(OK.o c hcm).1;refine⟨hxl,h - yaz c+(ofL c.op).1.o,by omega,hxh,by omega,by omega,?_⟩;have hsx:=K.span x _ hxh (by omega);cases hra:restsL c with
 |true=>simp only[znm];omega
 |false=>
  simp only[znl];have hra2:yao p.code k=false:=by unfold yao;rw[h1];exact hra
  have hfa:yaq p.code k=followN c k:=by unfold yaq;rw[h1]
  have hd:=K.dn k h hh h0;rw[dnF]at hd;have hdx:=hd.resolve_left (by rw[hra2];simp) x (by rw[hfa];exact hx);have hs:spF p.code (p.code.length+1) k=(followN c k).foldl (fun n x=>max n (spF p.code p.code.length x)) 0+1:=by
   rw[spF,hra2,hfa];rfl
  have hge:∀(l:List Nat) (a:Nat),x∈l→spF p.code p.code.length x≤l.foldl (fun n x=>max n (spF p.code p.code.length x)) a:=fun l=>by
   have hmono:∀(l:List Nat) (a:Nat),a≤l.foldl (fun n x=>max n (spF p.code p.code.length x)) a:=fun l=>by
    induction l with
    |nil=>exact fun a=>znc _
    |cons y r ih=>exact fun a=>znf (Nat.le_max_left ..) (ih _)
   induction l with
   |nil=>intro a h;cases h
   |cons y r ih=>
    intro a h;rw[List.foldl_cons];rcases List.mem_cons.1 h with rfl|h
    ·exact znf (Nat.le_max_right ..) (hmono r _)
    ·exact ih _ h
  have h6:=hge (followN c k) 0 hx;have h7:=(yd5 hdx (Nat.le_succ _)).2;rw[h7];omega
end Go.Proofs.YtpagmlndgblhhaaGreatDoor
