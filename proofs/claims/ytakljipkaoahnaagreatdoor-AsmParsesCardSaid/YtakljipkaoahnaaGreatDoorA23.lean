/- Parts of the proof: what the functions and the plain laws give that later parts lean on. Conditions: none beyond those that each theorem names. -/
import Derived.Test.YtakljipkaoahnaaGreatDoorA22
set_option maxRecDepth 100000
set_option maxHeartbeats 8000000
namespace Go.Proofs.YtakljipkaoahnaaGreatDoor
open Go.RowKit Go.Own Go.Own.MapTy Go.Va Go.Sort
open Go.Own.Cells (sz enc)
def digL2:List UInt8→Int
 |[a]=>if 48≤a.toNat∧a.toNat≤57 then(a.toNat:Int) - 48 else -1
 |[a,b]=>if 49≤a.toNat∧a.toNat≤57∧48≤b.toNat∧b.toNat≤57 then 10*((a.toNat:Int) - 48)+((b.toNat:Int) - 48)else -1
 |_=> -1
theorem digL2_fin:∀n:Fin 100,digL2 (Lib.decDigits n.1)=(n.1:Int)∧numberL (Lib.decDigits n.1)=some n.1:=by decide+kernel
theorem u8_of {a:UInt8}{n:Nat}(h:a.toNat=n):a=UInt8.ofNat n:=by
 rw[←h]
 simp
theorem digL2_number (l:List UInt8):digL2 l=match numberL l with
  |some n=>(n:Int)
  |none=> -1:=by
 cases hn:numberL l with
 |some n=>
  unfold numberL at hn
  split at hn
  ·rename_i v hv
   split at hn
   ·rename_i h
    cases hn
    have:=(digL2_fin ⟨v.toNat,by omega⟩).1
    rw[h.2.2]at this
    exact this
   ·cases hn
  ·cases hn
 |none=>
  have key:∀n:Nat,n<100→l≠Lib.decDigits n:=fun n h e=>by
   have:=(digL2_fin ⟨n,h⟩).2
   rw[←e,hn]at this
   cases this
  show digL2 l= -1
  match l with
  |[]=>rfl
  |[a]=>
   show(if 48≤a.toNat∧a.toNat≤57 then _ else _)=_
   split
   ·rename_i h
    exfalso
    refine key (a.toNat - 48) (by omega) ?_
    rw[Lib.decDigits_one (by omega),←u8_of (show a.toNat=48+(a.toNat - 48) by omega)]
   ·rfl
  |[a,b]=>
   show(if 49≤a.toNat∧a.toNat≤57∧48≤b.toNat∧b.toNat≤57 then _ else _)=_
   split
   ·rename_i h
    exfalso
    refine key (10*(a.toNat - 48)+(b.toNat - 48)) (by omega) ?_
    rw[Lib.decDigits_two (by omega) (by omega),←u8_of (show a.toNat=48+(10*(a.toNat - 48)+(b.toNat - 48))/10 by omega),←u8_of (show b.toNat=48+(10*(a.toNat - 48)+(b.toNat - 48))%10 by omega)]
   ·rfl
  |a::b::c::r=>rfl
theorem list_one {s:ByteArray}(h:s.size=1):s.data.toList=[s[0]]:=by
 have e:=drop_at (s:=s) (k:=0) (by omega)
 rw[List.drop_zero]at e
 rw[e,List.drop_eq_nil_of_le (by rw[Array.length_toList];show s.size≤1;omega)]
theorem list_two {s:ByteArray}(h:s.size=2):s.data.toList=[s[0],s[1]]:=by
 have e:=drop_at (s:=s) (k:=0) (by omega)
 have e2:=drop_at (s:=s) (k:=1) (by omega)
 rw[List.drop_zero]at e
 rw[e,e2,List.drop_eq_nil_of_le (by rw[Array.length_toList];show s.size≤2;omega)]
theorem digits_other (s:ByteArray)(w:World)(h1:s.size≠1)(h2:s.size≠2):Calls Tryz.prog 42 #[.string s] w fun e w'=>e= .returned (.int .i64 (digL2 s.data.toList))∧Below w.heap.size w w':=by
 have hl:s.data.toList.length=s.size:=Array.length_toList
 have HR:=zhd (show digL2 s.data.toList= -1 by
  cases hd:s.data.toList with
  |nil=>rfl
  |cons a r=>
   cases r with
   |nil=>rw[hd]at hl;exact absurd hl.symm h1
   |cons b r=>
    cases r with
    |nil=>rw[hd]at hl;exact absurd hl.symm h2
    |cons c r=>rfl)
 have e1:((s.size:Int)==1)=false:=by rw[beq_eq_false_iff_ne];omega
 have e2:((s.size:Int)==2)=false:=by rw[beq_eq_false_iff_ne];omega
 clear h1 h2 hl
 go_enter Tryz.func42,Tryz.ntmps42
 go_wp2_with fail
 go_ret
 exact⟨by rw[HR.out];rfl,Below.refl _ _⟩
theorem digits_one (s:ByteArray)(w:World)(h1:s.size=1):Calls Tryz.prog 42 #[.string s] w fun e w'=>e= .returned (.int .i64 (digL2 s.data.toList))∧Below w.heap.size w w':=by
 have hp:0<s.size:=by omega
 have hd:=list_one h1
 have e1:((s.size:Int)==1)=true:=by rw[h1];rfl
 have e2:((s.size:Int)==2)=false:=by rw[h1];rfl
 have e3:(0:Int)<s.size:=by omega
 by_cases c:48≤s[0].toNat∧s[0].toNat≤57
 ·have HR:=zhd (show digL2 s.data.toList=((s[0].toNat:Nat):Int) - 48 by rw[hd];show(if _ then _ else _)=_;rw[if_pos c])
  have d1:decide ((48:Int)≤((s[0].toNat:Nat):Int))=true:=decide_eq_true (by omega)
  have d2:decide (((s[0].toNat:Nat):Int)≤57)=true:=decide_eq_true (by omega)
  have f1:=of_decide_eq_true d1
  have f2:=of_decide_eq_true d2
  have hw8:IntKind.u8.wrap (((s[0].toNat:Nat):Int) - 48)=((s[0].toNat:Nat):Int) - 48:=by simp[IntKind.wrap,IntKind.bits,IntKind.signed];omega
  have hw64:wrap64 (((s[0].toNat:Nat):Int) - 48)=((s[0].toNat:Nat):Int) - 48:=by unfold wrap64;omega
  clear c hd h1
  go_enter Tryz.func42,Tryz.ntmps42
  go_wp2_with fail
  go_ret
  exact⟨by rw[HR.out];rfl,Below.refl _ _⟩
 ·have HR:=zhd (show digL2 s.data.toList= -1 by rw[hd];show(if _ then _ else _)=_;rw[if_neg c])
  have g0:decide ((48:Int)≤((s[0].toNat:Nat):Int))=false∨(decide ((48:Int)≤((s[0].toNat:Nat):Int))=true∧decide (((s[0].toNat:Nat):Int)≤57)=false):=by
   by_cases h:48≤s[0].toNat
   ·exact .inr ⟨decide_eq_true (by omega),decide_eq_false (by omega)⟩
   ·exact .inl (decide_eq_false (by omega))
  clear c hd h1
  rcases g0 with g0|⟨g0,g5⟩
  ·have f1:=of_decide_eq_false g0
   go_enter Tryz.func42,Tryz.ntmps42
   go_wp2_with fail
   go_ret
   exact⟨by rw[HR.out];rfl,Below.refl _ _⟩
  ·have f1:=of_decide_eq_true g0
   have f2:=of_decide_eq_false g5
   go_enter Tryz.func42,Tryz.ntmps42
   go_wp2_with fail
   go_ret
   exact⟨by rw[HR.out];rfl,Below.refl _ _⟩
theorem digits_two (s:ByteArray)(w:World)(h1:s.size=2):Calls Tryz.prog 42 #[.string s] w fun e w'=>e= .returned (.int .i64 (digL2 s.data.toList))∧Below w.heap.size w w':=by
 have hp:0<s.size:=by omega
 have hp1:1<s.size:=by omega
 have hd:=list_two h1
 have e1:((s.size:Int)==1)=false:=by rw[h1];rfl
 have e2:((s.size:Int)==2)=true:=by rw[h1];rfl
 have e3:(0:Int)<s.size:=by omega
 have e4:(1:Int)<s.size:=by omega
 by_cases c:49≤s[0].toNat∧s[0].toNat≤57∧48≤s[1].toNat∧s[1].toNat≤57
 ·have HR:=zhd (show digL2 s.data.toList=10*(((s[0].toNat:Nat):Int) - 48)+(((s[1].toNat:Nat):Int) - 48)from by rw[hd];exact if_pos c)
  have d1:decide ((49:Int)≤((s[0].toNat:Nat):Int))=true:=decide_eq_true (by omega)
  have d2:decide (((s[0].toNat:Nat):Int)≤57)=true:=decide_eq_true (by omega)
  have d3:decide ((48:Int)≤((s[1].toNat:Nat):Int))=true:=decide_eq_true (by omega)
  have d4:decide (((s[1].toNat:Nat):Int)≤57)=true:=decide_eq_true (by omega)
  have f1:=of_decide_eq_true d1
  have f2:=of_decide_eq_true d2
  have f3:=of_decide_eq_true d3
  have f4:=of_decide_eq_true d4
  have HC:=zhd c
  clear c hd h1
  go_enter Tryz.func42,Tryz.ntmps42
  go_wp2_with fail
  refine wp_region_ext (by kernel_rfl) (by kernel_rfl) ?_
  repeat(go_big_quiet_step (fail))
  refine wpQuiet_nil ?_
  intro w7 hB7
  go_wp2_with fail
  go_ret
  exact⟨by rw[HR.out];rfl,hB7⟩
 ·have HR:=zhd (show digL2 s.data.toList= -1 by rw[hd];show(if _ then _ else _)=_;rw[if_neg c])
  have g0:(decide ((49:Int)≤((s[0].toNat:Nat):Int))=false)∨(decide ((49:Int)≤((s[0].toNat:Nat):Int))=true∧decide (((s[0].toNat:Nat):Int)≤57)=false)∨(decide ((49:Int)≤((s[0].toNat:Nat):Int))=true∧decide (((s[0].toNat:Nat):Int)≤57)=true∧decide ((48:Int)≤((s[1].toNat:Nat):Int))=false)∨(decide ((49:Int)≤((s[0].toNat:Nat):Int))=true∧decide (((s[0].toNat:Nat):Int)≤57)=true∧decide ((48:Int)≤((s[1].toNat:Nat):Int))=true∧decide (((s[1].toNat:Nat):Int)≤57)=false):=by
   simp only[decide_eq_true_eq,decide_eq_false_iff_not]
   omega
  clear c hd h1
  rcases g0 with d1|⟨d1,d2⟩|⟨d1,d2,d3⟩|⟨d1,d2,d3,d4⟩
  ·
   have f1:=of_decide_eq_false d1
   go_enter Tryz.func42,Tryz.ntmps42
   go_wp2_with fail
   go_ret
   exact⟨by rw[HR.out];rfl,Below.refl _ _⟩
  ·
   have f1:=of_decide_eq_true d1
   have f2:=of_decide_eq_false d2
   go_enter Tryz.func42,Tryz.ntmps42
   go_wp2_with fail
   go_ret
   exact⟨by rw[HR.out];rfl,Below.refl _ _⟩
  ·
   have f1:=of_decide_eq_true d1
   have f2:=of_decide_eq_true d2
   have f3:=of_decide_eq_false d3
   go_enter Tryz.func42,Tryz.ntmps42
   go_wp2_with fail
   go_ret
   exact⟨by rw[HR.out];rfl,Below.refl _ _⟩
  ·
   have f1:=of_decide_eq_true d1
   have f2:=of_decide_eq_true d2
   have f3:=of_decide_eq_true d3
   have f4:=of_decide_eq_false d4
   go_enter Tryz.func42,Tryz.ntmps42
   go_wp2_with fail
   go_ret
   exact⟨by rw[HR.out];rfl,Below.refl _ _⟩
theorem ldigits_any (s:ByteArray)(w:World):Calls Tryz.prog 42 #[.string s] w fun e w'=>e= .returned (.int .i64 (digL2 s.data.toList))∧Below w.heap.size w w':=by
 by_cases h1:s.size=1
 ·exact digits_one s w h1
 ·by_cases h2:s.size=2
  ·exact digits_two s w h2
  ·exact digits_other s w h1 h2
end Go.Proofs.YtakljipkaoahnaaGreatDoor
namespace Go.Proofs.YtakljipkaoahnaaGreatDoor
open Go.RowKit Go.Own Go.Own.MapTy Go.Va Go.Sort
structure SR where
 op:Int
 n:Int
 line:Int
 v:Val
 label:ByteArray
def stepR (i:Nat)(s:ByteArray)(op:Int):SR:=
 if(ofL op).1.operand=0 then⟨op,0,(i:Int)+1,vNil,⟨#[]⟩⟩else⟨op,digL2 (cutR s).data.toList,(i:Int)+1,(parseV (cutR s).data.toList).1,cutR s⟩
structure RT where
 names:List ByteArray
 at_:List Int
 out:List SR
def inN (l:ByteArray)(names:List ByteArray):Bool:=names.any (fun x=>decide (x=l))
theorem inN_iff {l:ByteArray}{names:List ByteArray}:inN l names=true↔l∈names:=by
 unfold inN
 rw[List.any_eq_true]
 exact⟨fun⟨x,hx,h⟩=>of_decide_eq_true h▸hx,fun h=>⟨l,h,decide_eq_true rfl⟩⟩
def readM (i:Nat)(s:ByteArray)(t:RT):Int×RT:=
 match lineM s with
 | .lab l=>if inN l t.names=true then(5,t)else(0,{t with names:=t.names++[l],at_:=t.at_++[(t.out.length:Int)]})
 | .bad e=>(e,t)
 | .ins op _=>(0,{t with out:=t.out++[stepR i s op]})
 | .jmp op _=>(0,{t with out:=t.out++[stepR i s op]})
def readL:List ByteArray→Nat→RT→(Int×Int)×RT
 |[],_,t=>((0,0),t)
 |s::r,i,t=>bif (readM i s t).1 !=0 then(((i:Int)+1,(readM i s t).1),(readM i s t).2)else readL r (i+1) (readM i s t).2
def lookN (l:ByteArray):List ByteArray→List Int→Int→Int
 |x::r,k::ks,acc=>lookN l r ks (if x=l then k else acc)
 |_,_,acc=>acc
def fixN (t:RT)(x:SR):Int:=lookN x.label t.names t.at_ (-1)
def fixF (t:RT)(x:SR):SR:=if(ofL x.op).1.operand=4 then{x with n:=fixN t x}else x
def firstBad (t:RT)(len:Int):List SR→Int×Int
 |[]=>(0,0)
 |x::r=>if(ofL x.op).1.operand=4∧(fixN t x<0∨fixN t x=len)then(x.line,120)else firstBad t len r
def rt0:RT:=⟨[],[],[]⟩
def readT (ls:List ByteArray):(Int×Int)×List SR:=
 let q:=readL ls 0 rt0
 bif q.1.2 !=0 then(q.1,[])else
 let e:=firstBad q.2 q.2.out.length q.2.out
 bif e.2 !=0 then(e,[])else((0,0),q.2.out.map (fixF q.2))
theorem lookN_app (l x:ByteArray)(k:Int):∀(names:List ByteArray) (at_:List Int) (acc:Int),names.length=at_.length→lookN l (names++[x]) (at_++[k]) acc=if x=l then k else lookN l names at_ acc
 |[],[],acc,_=>rfl
 |[],_::_,_,h=>by cases h
 |_::_,[],_,h=>by cases h
 |y::r,j::ks,acc,h=>by
  rw[List.cons_append,List.cons_append,lookN,lookN]
  exact lookN_app l x k r ks _ (by simpa using h)
structure RRel (st:RSt)(t:RT):Prop where
 len:t.out.length=st.code.length
 two:t.names.length=t.at_.length
 look:∀l,lookN l t.names t.at_ (-1)=(MapTy.get st.labels l).getD (-1)
 mem:∀l,l∈t.names↔(MapTy.get st.labels l).isSome=true
 pos:∀l k,MapTy.get st.labels l=some k→0≤k
theorem rrel0:RRel st0 rt0:=⟨rfl,rfl,fun l=>rfl,fun l=>by simp[rt0,st0,MapTy.get],fun l k h=>by simp[st0,MapTy.get]at h⟩
def outL:List ByteArray→Nat→List SR
 |[],_=>[]
 |s::r,n=>match lineM s with
  | .lab _=>outL r (n+1)
  | .bad _=>outL r (n+1)
  | .ins op _=>stepR n s op::outL r (n+1)
  | .jmp op _=>stepR n s op::outL r (n+1)
theorem read_lines:∀(ls:List ByteArray) (n:Nat) (st:RSt) (t:RT),RRel st t→
  (∃ln e st' t',e≠0∧linesR ls n st=((ln,e),st')∧readL ls n t=((ln,e),t'))∨
  (∃st' t',runM (ls.map lineM) n st=some st'∧readL ls n t=((0,0),t')∧RRel st' t'∧t'.out=t.out++outL ls n)
 |[],n,st,t,h=>.inr ⟨st,t,rfl,rfl,h,by rw[outL,List.append_nil]⟩
 |s::r,n,st,t,h=>by
  have hL:=lineL_M ((n:Int)+1) s st
  have hgo:∀(e:Int) (st1:RSt) (t1:RT),e=0→lineL ((n:Int)+1) s st=(e,st1)→readM n s t=(e,t1)→RRel st1 t1→∀o,stepM ((n:Int)+1) (lineM s) st=some st1→t1.out++outL r (n+1)=o→
    (∃ln e st' t',e≠0∧linesR (s::r) n st=((ln,e),st')∧readL (s::r) n t=((ln,e),t'))∨
    (∃st' t',runM ((s::r).map lineM) n st=some st'∧readL (s::r) n t=((0,0),t')∧RRel st' t'∧t'.out=o):=by
   intro e st1 t1 he h1 h2 hR o hs ho
   subst he
   rw[linesR,readL,h1,h2,List.map_cons,runM,hs]
   simp only[bne_self_eq_false,cond_false]
   rcases read_lines r (n+1) st1 t1 hR with⟨ln,e,st',t',he,h3,h4⟩|⟨st',t',h3,h4,h5,h6⟩
   ·exact .inl ⟨ln,e,st',t',he,h3,h4⟩
   ·exact .inr ⟨st',t',h3,h4,h5,by rw[h6,ho]⟩
  have hbad:∀(e:Int) (st1:RSt) (t1:RT),e≠0→lineL ((n:Int)+1) s st=(e,st1)→readM n s t=(e,t1)→
    (∃ln e st' t',e≠0∧linesR (s::r) n st=((ln,e),st')∧readL (s::r) n t=((ln,e),t')):=by
   intro e st1 t1 he h1 h2
   have hb:(e !=0)=true:=by simpa using he
   exact⟨(n:Int)+1,e,st1,t1,he,by rw[linesR,h1];simp only[hb,cond_true],by rw[readL,h2];simp only[hb,cond_true]⟩
  cases hm:lineM s with
  |lab l=>
   rw[hm]at hL
   dsimp only at hL
   by_cases hx:(MapTy.get st.labels l).isSome=true
   ·rw[if_pos hx]at hL
    exact .inl (hbad 5 st t (by decide) hL (by unfold readM;rw[hm];dsimp only;rw[if_pos (inN_iff.2 ((h.mem l).2 hx))]))
   ·rw[if_neg hx]at hL
    have hn:¬l∈t.names:=fun hh=>hx ((h.mem l).1 hh)
    refine hgo 0 _ {t with names:=t.names++[l],at_:=t.at_++[(t.out.length:Int)]} rfl hL (by unfold readM;rw[hm];dsimp only;rw[if_neg (fun e=>hn (inN_iff.1 e))]) ⟨h.len,?_,fun l'=> ?_,fun l'=> ?_,fun l' k hk=> ?_⟩ _ (by rw[hm];dsimp only[stepM];rw[if_neg hx]) ?_
    ·show(t.names++[l]).length=(t.at_++[_]).length
     rw[List.length_append,List.length_append,h.two]
     rfl
    ·show lookN l' (t.names++[l]) (t.at_++[(t.out.length:Int)]) (-1)=(MapTy.get (upd st.labels l st.code.length) l').getD (-1)
     rw[lookN_app _ _ _ _ _ _ h.two,get_upd,h.len]
     by_cases he:l=l'
     ·rw[if_pos he,if_pos he.symm];rfl
     ·rw[if_neg he,if_neg (fun e=>he e.symm)];exact h.look l'
    ·show l'∈t.names++[l]↔(MapTy.get (upd st.labels l st.code.length) l').isSome=true
     rw[get_upd,List.mem_append,List.mem_singleton]
     by_cases he:l'=l
     ·rw[if_pos he];exact⟨fun _=>rfl,fun _=>.inr he⟩
     ·rw[if_neg he,h.mem l'];exact⟨fun hh=>hh.elim id (fun e=>absurd e he),.inl⟩
    ·have hk:MapTy.get (upd st.labels l st.code.length) l'=some k:=hk
     rw[get_upd]at hk
     by_cases he:l'=l
     ·rw[if_pos he]at hk;cases hk;omega
     ·rw[if_neg he]at hk;exact h.pos l' k hk
    ·rw[outL,hm]
  |bad e=>
   rw[hm]at hL
   dsimp only at hL
   obtain⟨he,st',hL⟩:=hL
   exact .inl (hbad e st' t he hL (by unfold readM;rw[hm]))
  |ins op a=>
   rw[hm]at hL
   dsimp only at hL
   obtain⟨f1,f2,f3⟩:=putI_frame (op,a) st
   refine hgo 0 _ {t with out:=t.out++[stepR n s op]} rfl hL (by unfold readM;rw[hm]) ⟨?_,h.two,fun l=>by rw[f1];exact h.look l,fun l=>by rw[f1];exact h.mem l,fun l k=>by rw[f1];exact h.pos l k⟩ _ (by rw[hm];rfl) ?_
   ·show(t.out++[_]).length=_
    rw[List.length_append,f3,h.len]
    rfl
   ·rw[outL,hm]
    show(t.out++[_])++_=_
    rw[List.append_assoc]
    rfl
  |jmp op l=>
   rw[hm]at hL
   dsimp only at hL
   refine hgo 0 _ {t with out:=t.out++[stepR n s op]} rfl hL (by unfold readM;rw[hm]) ⟨?_,h.two,h.look,h.mem,h.pos⟩ _ (by rw[hm];rfl) ?_
   ·show(t.out++[_]).length=(st.code++[_]).length
    rw[List.length_append,List.length_append,h.len]
    rfl
   ·rw[outL,hm]
    show(t.out++[_])++_=_
    rw[List.append_assoc]
    rfl
def jbad (labels:List (ByteArray×Int))(len:Int):List Jp→Int×Int
 |[]=>(0,0)
 |j::r=>match MapTy.get labels j.label with
  |none=>(j.line,120)
  |some tg=>bif tg==len then(j.line,120)else jbad labels len r
theorem jumpsR_err (labels:List (ByteArray×Int)):∀(js:List Jp) (code:List In),(jumpsR labels js code).1=jbad labels code.length js
 |[],_=>rfl
 |j::r,code=>by
  rw[jumpsR,jbad]
  cases MapTy.get labels j.label with
  |none=>rfl
  |some tg=>
   dsimp only
   cases(tg==(code.length:Int))with
   |true=>rfl
   |false=>
    rw[cond_false,cond_false,jumpsR_err labels r]
    congr 1
    unfold setA
    rw[List.length_modify]
theorem lineM_jmp {s:ByteArray}{op:Int}{l:ByteArray}(h:lineM s= .jmp op l):l=cutR s∧(ofL op).1.operand=4:=by
 have hf:=line_fit s
 rw[h]at hf
 refine⟨?_,hf.1⟩
 unfold lineM operM at h
 repeat' split at h
 all_goals first|cases h;done|skip
 all_goals first|(injection h with _ h2;exact h2.symm)|skip
theorem lineM_ins {s:ByteArray}{op:Int}{a:Arg}(h:lineM s= .ins op a):((ofL op).1.operand=0∧a= .int 0)∨((ofL op).1.operand=1∧a= .val (parseV (cutR s).data.toList).1)∨((ofL op).1.operand=2∧a= .name (parseV (cutR s).data.toList).1.txt)∨
  ((ofL op).1.operand=3∧a= .place (digL2 (cutR s).data.toList))∨((ofL op).1.operand≠0∧(ofL op).1.operand≠1∧(ofL op).1.operand≠2∧(ofL op).1.operand≠3∧(ofL op).1.operand≠4∧a= .int (digL2 (cutR s).data.toList)):=by
 unfold lineM at h
 split at h
 ·cases h
 ·split at h
  ·cases h
  ·split at h
   ·cases h
   ·rename_i o hf
    split at h
    ·cases h
    ·rename_i h4
     have h4:cutM s=((ofL o).1.operand !=0):=by simpa using h4
     split at h
     ·rename_i h5
      have hk0:(ofL o).1.operand≠0:=by rw[h5]at h4;simpa using h4.symm
      unfold operM at h
      split at h
      ·rename_i k1
       split at h
       ·cases h
       ·injection h with h1 h2
        subst h1
        exact .inr (.inl ⟨k1,h2.symm⟩)
      ·rename_i k1
       split at h
       ·rename_i k2
        split at h
        ·cases h
        ·rename_i nm hq
         injection h with h1 h2
         subst h1
         refine .inr (.inr (.inl ⟨k2,?_⟩))
         unfold quotedL at hq
         split at hq
         ·cases hq;exact h2.symm
         ·cases hq
       ·rename_i k2
        split at h
        ·rename_i k4
         split at h
         ·cases h
         ·cases h
        ·rename_i k4
         split at h
         ·cases h
         ·rename_i nm hq
          injection h with h1 h2
          subst h1
          have hd:=digL2_number (cutR s).data.toList
          rw[hq]at hd
          dsimp only at hd
          split at h2
          ·rename_i k3
           exact .inr (.inr (.inr (.inl ⟨k3,by rw[hd];exact h2.symm⟩)))
          ·rename_i k3
           exact .inr (.inr (.inr (.inr ⟨hk0,k1,k2,k3,k4,by rw[hd];exact h2.symm⟩)))
     ·rename_i h5
      have hk0:(ofL o).1.operand=0:=by
       have:cutM s=false:=by simpa using h5
       rw[this]at h4
       simpa using h4.symm
      injection h with h1 h2
      subst h1
      exact .inl ⟨hk0,h2.symm⟩
theorem ins_op {s:ByteArray}{op:Int}{a:Arg}(h:lineM s= .ins op a):(ofL op).1.operand≠4:=by
 rcases lineM_ins h with⟨h,_⟩|⟨h,_⟩|⟨h,_⟩|⟨h,_⟩|⟨_,_,_,_,h,_⟩<;>omega
theorem stepR_op (n:Nat)(s:ByteArray)(op:Int):(stepR n s op).op=op∧(stepR n s op).line=(n:Int)+1:=by
 unfold stepR
 split<;>exact⟨rfl,rfl⟩
theorem stepR_arg {n:Nat}{s:ByteArray}{op:Int}(h:(ofL op).1.operand≠0):stepR n s op=⟨op,digL2 (cutR s).data.toList,(n:Int)+1,(parseV (cutR s).data.toList).1,cutR s⟩:=by
 unfold stepR
 rw[if_neg h]
theorem bad_eq {labels:List (ByteArray×Int)}{t:RT}{len:Int}(hl:∀l,lookN l t.names t.at_ (-1)=(MapTy.get labels l).getD (-1))(hp:∀l k,MapTy.get labels l=some k→0≤k):∀(ls:List ByteArray) (n k:Nat),firstBad t len (outL ls n)=jbad labels len (jmpsM (ls.map lineM) k n)
 |[],_,_=>rfl
 |s::r,n,k=>by
  rw[outL,List.map_cons]
  cases hm:lineM s with
  |lab l=>dsimp only;rw[jmpsM];exact bad_eq hl hp r (n+1) k
  |bad e=>dsimp only;rw[jmpsM];exact bad_eq hl hp r (n+1) k
  |ins op a=>
   dsimp only
   rw[jmpsM,firstBad,(stepR_op n s op).1,if_neg (fun h=>ins_op hm h.1)]
   exact bad_eq hl hp r (n+1) (k+1)
  |jmp op l=>
   obtain⟨h1,h2⟩:=lineM_jmp hm
   dsimp only
   rw[jmpsM,firstBad,(stepR_op n s op).1,(stepR_op n s op).2,jbad]
   have hx:fixN t (stepR n s op)=(MapTy.get labels l).getD (-1):=by
    unfold fixN
    rw[stepR_arg (by omega),←h1]
    exact hl l
   rw[hx]
   cases hg:MapTy.get labels l with
   |none=>rw[if_pos ⟨h2,.inl (by decide)⟩]
   |some tg=>
    have:=hp l tg hg
    dsimp only[Option.getD]
    by_cases he:tg=len
    ·rw[if_pos ⟨h2,.inr he⟩,show(tg==len)=true by simpa using he];rfl
    ·rw[if_neg (fun h=>h.2.elim (fun h=>absurd h (by omega)) he),show(tg==len)=false by simpa using he,cond_false]
     exact bad_eq hl hp r (n+1) (k+1)
theorem firstBad_mem {t:RT}{len:Int}:∀{l:List SR},(firstBad t len l).2=0→firstBad t len l=(0,0)∧∀x∈l,(ofL x.op).1.operand=4→0≤fixN t x∧fixN t x≠len
 |[],_=>⟨rfl,fun x h=>by cases h⟩
 |x::r,h=>by
  rw[firstBad]at h⊢
  by_cases hc:(ofL x.op).1.operand=4∧(fixN t x<0∨fixN t x=len)
  ·rw[if_pos hc]at h;have h:(120:Int)=0:=h;exact absurd h (by decide)
  ·rw[if_neg hc]at h⊢
   obtain⟨h1,h2⟩:=firstBad_mem h
   refine⟨h1,fun y hy h4=> ?_⟩
   rcases List.mem_cons.1 hy with rfl|hy
   ·refine⟨?_,fun e=>hc ⟨h4,.inr e⟩⟩
    by_cases h0:fixN t y<0
    ·exact absurd ⟨h4,.inl h0⟩ hc
    ·omega
   ·exact h2 y hy h4
def StepIs (m:Int×Arg)(x:SR):Prop:=
 x.op=m.1∧match m.2 with
 | .val v=>(ofL m.1).1.operand=1∧x.v=v
 | .name s=>(ofL m.1).1.operand=2∧x.v.txt=s
 | .place k=>(ofL m.1).1.operand=3∧x.n=k
 | .int k=>(ofL m.1).1.operand≠1∧(ofL m.1).1.operand≠2∧(ofL m.1).1.operand≠3∧((ofL m.1).1.operand≠0→x.n=k)
theorem steps_say {t:RT}:∀(ls:List ByteArray) (n:Nat),(resM (fun l=>lookN l t.names t.at_ (-1)) (ls.map lineM)).length=(outL ls n).length∧∀(i:Nat) m x,(resM (fun l=>lookN l t.names t.at_ (-1)) (ls.map lineM))[i]? =some m→((outL ls n).map (fixF t))[i]? =some x→StepIs m x
 |[],_=>⟨rfl,fun i m x h=>by simp[resM]at h⟩
 |s::r,n=>by
  obtain⟨h1,h2⟩:=steps_say (t:=t) r (n+1)
  rw[outL,List.map_cons]
  cases hm:lineM s with
  |lab l=>exact⟨h1,h2⟩
  |bad e=>exact⟨h1,h2⟩
  |ins op a=>
   dsimp only
   rw[resM]
   refine⟨by rw[List.length_cons,List.length_cons,h1],fun i m x hi hx=> ?_⟩
   cases i with
   |succ i=>rw[List.map_cons,List.getElem?_cons_succ]at hx;rw[List.getElem?_cons_succ]at hi;exact h2 i m x hi hx
   |zero=>
    rw[List.map_cons,List.getElem?_cons_zero]at hx
    rw[List.getElem?_cons_zero]at hi
    cases hi
    cases hx
    have hn4:=ins_op hm
    unfold fixF
    rw[(stepR_op n s op).1,if_neg hn4]
    refine⟨(stepR_op n s op).1,?_⟩
    rcases lineM_ins hm with⟨h,rfl⟩|⟨h,rfl⟩|⟨h,rfl⟩|⟨h,rfl⟩|⟨h,g1,g2,g3,_,rfl⟩
    ·exact⟨by show(ofL op).1.operand≠1;omega,by show(ofL op).1.operand≠2;omega,by show(ofL op).1.operand≠3;omega,fun h0=>absurd h h0⟩
    ·exact⟨h,by rw[stepR_arg (by omega)]⟩
    ·exact⟨h,by rw[stepR_arg (by omega)]⟩
    ·exact⟨h,by rw[stepR_arg (by omega)]⟩
    ·exact⟨g1,g2,g3,fun _=>by rw[stepR_arg h]⟩
  |jmp op l=>
   obtain⟨e1,e2⟩:=lineM_jmp hm
   dsimp only
   rw[resM]
   refine⟨by rw[List.length_cons,List.length_cons,h1],fun i m x hi hx=> ?_⟩
   cases i with
   |succ i=>rw[List.map_cons,List.getElem?_cons_succ]at hx;rw[List.getElem?_cons_succ]at hi;exact h2 i m x hi hx
   |zero=>
    rw[List.map_cons,List.getElem?_cons_zero]at hx
    rw[List.getElem?_cons_zero]at hi
    cases hi
    cases hx
    unfold fixF
    rw[(stepR_op n s op).1,if_pos e2]
    refine⟨rfl,by show(ofL op).1.operand≠1;omega,by show(ofL op).1.operand≠2;omega,by show(ofL op).1.operand≠3;omega,fun _=> ?_⟩
    show fixN t (stepR n s op)=_
    unfold fixN
    rw[stepR_arg (by omega),←e1]
theorem jmp_step {ls:List ByteArray}{op:Int}{l:ByteArray}:∀(n:Nat),LM.jmp op l∈ls.map lineM→∃x∈outL ls n,x.op=op∧x.label=l∧(ofL op).1.operand=4:=by
 induction ls with
 |nil=>intro n h;cases h
 |cons s r ih=>
  intro n h
  rw[List.map_cons]at h
  rw[outL]
  rcases List.mem_cons.1 h with h|h
  ·obtain⟨e1,e2⟩:=lineM_jmp h.symm
   rw[←h]
   exact⟨_,List.mem_cons_self,(stepR_op n s op).1,by rw[stepR_arg (by omega),e1],e2⟩
  ·obtain⟨x,hx,hh⟩:=ih (n+1) h
   cases lineM s with
   |lab _=>exact⟨x,hx,hh⟩
   |bad _=>exact⟨x,hx,hh⟩
   |ins _ _=>exact⟨x,List.mem_cons_of_mem _ hx,hh⟩
   |jmp _ _=>exact⟨x,List.mem_cons_of_mem _ hx,hh⟩
structure LawP (p:Img)(l:List SR):Prop where
 tidy:TdOk p
 ok:imgL p=0
 len:p.code.length=l.length
 say:∀(i:Nat) c x,p.code[i]? =some c→l[i]? =some x→c.op=x.op∧((ofL c.op).1.operand=1→∃(k:Nat) (y:Val),c.a=k∧p.consts[k]? =some y∧cloneV y=cloneV x.v)∧((ofL c.op).1.operand=2→∃k:Nat,c.a=k∧p.names[k]? =some x.v.txt)∧((ofL c.op).1.operand≠0→(ofL c.op).1.operand≠1→(ofL c.op).1.operand≠2→c.a=x.n)
theorem codeErr_two {p:Img}:∀{l:List In},(∀c∈l,(ofL c.op).2=true)→codeErr p l=0∨codeErr p l=1
 |[],_=>.inl rfl
 |c::r,h=>by
  rw[codeErr,h c List.mem_cons_self]
  simp only[Bool.not_true,cond_false]
  cases(decide (c.a<0)||decide (mostL p (ofL c.op).1.operand≤c.a))with
  |true=>exact .inr rfl
  |false=>exact codeErr_two (fun x hx=>h x (List.mem_cons_of_mem _ hx))
theorem nameErr_two:∀(l:List ByteArray),nameErr l=0∨nameErr l=2
 |[]=>.inl rfl
 |s::r=>by
  rw[nameErr]
  cases decide (64<s.size)with
  |true=>exact .inr rfl
  |false=>exact nameErr_two r
theorem imgL_three {p:Img}(h1:∀x∈p.consts,checkL x=0)(h2:∀c∈p.code,(ofL c.op).2=true):imgL p=0∨(imgL p=6∧p.code.length=0)∨imgL p=2∨imgL p=1:=by
 unfold imgL
 rw[constErr_all h1]
 by_cases h0:p.code.length=0
 ·rw[decide_eq_true h0];exact .inr (.inl ⟨rfl,h0⟩)
 ·rw[decide_eq_false h0]
  simp only[cond_false,bne_self_eq_false]
  cases(decide (512<p.code.length)||(decide (64<p.consts.length)||decide (32<p.names.length)))with
  |true=>exact .inr (.inr (.inl rfl))
  |false=>
   cases(decide (p.places<0)||decide (16<p.places))with
   |true=>exact .inr (.inr (.inr rfl))
   |false=>
    simp only[cond_false]
    rcases nameErr_two p.names with h|h<;>rw[h]
    ·simp only[bne_self_eq_false,cond_false]
     rcases codeErr_two (p:=p) h2 with h|h<;>rw[h]
     ·exact .inl rfl
     ·exact .inr (.inr (.inr rfl))
    ·exact .inr (.inr (.inl rfl))
theorem res_ok (L:ByteArray→Int):∀(ls:List ByteArray) (m:Int×Arg),m∈resM L (ls.map lineM)→fitA m∧(ofL m.1).2=true∧∀x,m.2= .val x→checkL x=0
 |[],m,h=>by cases h
 |s::r,m,h=>by
  rw[List.map_cons]at h
  have hf:=line_fit s
  cases hm:lineM s with
  |lab l=>rw[hm]at h;exact res_ok L r m h
  |bad e=>rw[hm]at h;exact res_ok L r m h
  |ins op a=>
   rw[hm]at h hf
   rw[resM]at h
   rcases List.mem_cons.1 h with rfl|h
   ·exact⟨hf.1,hf.2.1,hf.2.2.1⟩
   ·exact res_ok L r m h
  |jmp op l=>
   rw[hm]at h hf
   rw[resM]at h
   rcases List.mem_cons.1 h with rfl|h
   ·have h4:=hf.1
    exact⟨⟨by show(ofL op).1.operand≠1;omega,by show(ofL op).1.operand≠2;omega,by show(ofL op).1.operand≠3;omega⟩,hf.2,fun x e=>by cases e⟩
   ·exact res_ok L r m h
theorem parses_law (ls:List ByteArray):((readT ls).1.2≠0∧asmT ls=(noImg,(readT ls).1))∨
  ((readT ls).1=(0,0)∧(((asmT ls).2=(0,0)∧LawP (asmT ls).1 (readT ls).2)∨((asmT ls).1=noImg∧(asmT ls).2.1=0∧(((asmT ls).2.2=6∧(readT ls).2=[])∨(asmT ls).2.2=2∨(asmT ls).2.2=1)))):=by
 rcases read_lines ls 0 st0 rt0 rrel0 with⟨ln,e,st',t',he,h1,h2⟩|⟨st',t',h1,h2,hR,ho⟩
 ·have hb:(e !=0)=true:=by simpa using he
  have hr:readT ls=((ln,e),[]):=by
   unfold readT
   rw[h2]
   simp only[hb,cond_true]
  refine .inl ?_
  rw[hr]
  refine⟨he,?_⟩
  unfold asmT
  rw[h1]
  simp only[hb,cond_true]
 ·obtain⟨⟨r1,r2,r3,r4⟩,r5,r6⟩:=run_state _ _ _ _ h1
  have ho:t'.out=outL ls 0:=ho
  have hbe:=bad_eq (len:=(t'.out.length:Int)) hR.look hR.pos ls 0 0
  have hje:=jumpsR_err st'.labels st'.jumps st'.code
  rw[r5,←hR.len,show st0.jumps++jmpsM (ls.map lineM) st0.code.length 0=jmpsM (ls.map lineM) 0 0 from rfl,←hbe,←ho]at hje
  have hr0:readT ls=bif (firstBad t' t'.out.length t'.out).2 !=0 then(firstBad t' t'.out.length t'.out,[])else((0,0),t'.out.map (fixF t')):=by
   unfold readT
   rw[h2]
   simp only[bne_self_eq_false,cond_false]
  by_cases hz:(firstBad t' t'.out.length t'.out).2=0
  ·obtain⟨hz0,hall⟩:=firstBad_mem hz
   have hr:readT ls=((0,0),t'.out.map (fixF t')):=by rw[hr0,hz];rfl
   refine .inr ?_
   rw[hr]
   refine⟨rfl,?_⟩
   obtain⟨hlen,hsay⟩:=steps_say (t:=t') ls 0
   have hok:=res_ok (fun l=>lookN l t'.names t'.at_ (-1)) ls
   have hT:=asmT_ok (ls:=ls) (st:=st') (L:=fun l=>lookN l t'.names t'.at_ (-1)) h1 (fun op l hm=>by
    obtain⟨x,hx,x1,x2,x3⟩:=jmp_step 0 hm
    obtain⟨y1,y2⟩:=hall x (by rw[ho];exact hx) (by rw[x1];exact x3)
    have hfx:fixN t' x=lookN l t'.names t'.at_ (-1):=by unfold fixN;rw[x2]
    rw[hfx]at y1 y2
    refine⟨?_,y1,by show lookN l t'.names t'.at_ (-1)≠_;rw[hlen,←ho];exact y2⟩
    have hlk:=hR.look l
    have h6:=r6 l
    show findB l (labsM (ls.map lineM) 0)=some (lookN l t'.names t'.at_ (-1)).toNat
    rw[hlk]at y1⊢
    rw[h6]at y1⊢
    show findB l (labsM (ls.map lineM) 0)=_
    have h6':st0.code.length=0:=rfl
    rw[h6']at y1⊢
    cases hf:findB l (labsM (ls.map lineM) 0)with
    |some k=>rfl
    |none=>rw[hf]at y1;have y1:(0:Int)≤ -1:=y1;exact absurd y1 (by decide))
   obtain⟨ml,mm⟩:=means_all (resM (fun l=>lookN l t'.names t'.at_ (-1)) (ls.map lineM))
   have htd:=tdOk_puts (resM (fun l=>lookN l t'.names t'.at_ (-1)) (ls.map lineM)) st0 tdOk0 (fun m hm=>(hok m hm).1)
   have hcs:∀x∈(imgOf (putsI (resM (fun l=>lookN l t'.names t'.at_ (-1)) (ls.map lineM)) st0)).consts,checkL x=0:=fun x hx=>by
    rcases(puts_mem _ st0).1 x hx with h|⟨op,h⟩
    ·simp[st0]at h
    ·exact(hok _ h).2.2 x rfl
   have hop:∀c∈(imgOf (putsI (resM (fun l=>lookN l t'.names t'.at_ (-1)) (ls.map lineM)) st0)).code,(ofL c.op).2=true:=fun c hc=>by
    obtain⟨i,hi⟩:=List.getElem?_of_mem hc
    have hl:=lt_of_get hi
    have hl:i<(resM (fun l=>lookN l t'.names t'.at_ (-1)) (ls.map lineM)).length:=by rw[←ml];exact hl
    have hm:=mm i c _ hi (List.getElem?_eq_getElem hl)
    rw[hm.1]
    exact(hok _ (List.getElem_mem hl)).2.1
   generalize hI:imgOf (putsI (resM (fun l=>lookN l t'.names t'.at_ (-1)) (ls.map lineM)) st0)=p at*
   have pcode:p.code.length=(t'.out.map (fixF t')).length:=by
    rw[←hI,List.length_map,ho,←hlen]
    exact ml
   by_cases hi0:imgL p=0
   ·have hT:asmT ls=(p,0,0):=by rw[hT,hi0];rfl
    rw[hT]
    refine .inl ⟨rfl,htd,hi0,pcode,fun i c x hc hx=> ?_⟩
    have hil:i<(resM (fun l=>lookN l t'.names t'.at_ (-1)) (ls.map lineM)).length:=by
     have:=lt_of_get hc
     rw[pcode,List.length_map,ho,←hlen]at this
     exact this
    have hres:=List.getElem?_eq_getElem hil
    have hM:=mm i c _ (by rw[←hI]at hc;exact hc) hres
    have hS:=hsay i _ x hres (by rw[←ho];exact hx)
    generalize(resM (fun l=>lookN l t'.names t'.at_ (-1)) (ls.map lineM))[i]=m at hM hS
    obtain⟨op,a⟩:=m
    obtain⟨m1,m2⟩:=hM
    obtain⟨s1,s2⟩:=hS
    have m1:c.op=op:=m1
    have s1:x.op=op:=s1
    rw[m1]
    refine⟨s1.symm,?_⟩
    have pc:(putsI (resM (fun l=>lookN l t'.names t'.at_ (-1)) (ls.map lineM)) st0).consts=p.consts:=by rw[←hI];rfl
    have pn:(putsI (resM (fun l=>lookN l t'.names t'.at_ (-1)) (ls.map lineM)) st0).names=p.names:=by rw[←hI];rfl
    rw[pc,pn]at m2
    cases a with
    |val v=>
     obtain⟨k,y,e1,e2,e3⟩:=m2
     obtain⟨g1,g2⟩:=s2
     have g1:(ofL op).1.operand=1:=g1
     exact⟨fun _=>⟨k,y,e1,e2,by rw[e3,g2]⟩,fun h=>by omega,fun _ h _=>absurd g1 h⟩
    |name v=>
     obtain⟨k,e1,e2⟩:=m2
     obtain⟨g1,g2⟩:=s2
     have g1:(ofL op).1.operand=2:=g1
     exact⟨fun h=>by omega,fun _=>⟨k,e1,by rw[e2,g2]⟩,fun _ _ h=>absurd g1 h⟩
    |place v=>
     obtain⟨g1,g2⟩:=s2
     have g1:(ofL op).1.operand=3:=g1
     exact⟨fun h=>by omega,fun h=>by omega,fun _ _ _=>by rw[g2];exact m2⟩
    |int v=>
     obtain⟨g1,g2,g3,g4⟩:=s2
     exact⟨fun h=>absurd h g1,fun h=>absurd h g2,fun h0 _ _=>by rw[g4 h0];exact m2⟩
   ·have hb:(imgL p !=0)=true:=by simpa using hi0
    have hT:asmT ls=(noImg,0,imgL p):=by rw[hT,hb];rfl
    rw[hT]
    refine .inr ⟨rfl,rfl,?_⟩
    rcases imgL_three hcs hop with h|⟨h,hl⟩|h|h
    ·exact absurd h hi0
    ·exact .inl ⟨h,by rw[pcode]at hl;exact List.length_eq_zero_iff.1 hl⟩
    ·exact .inr (.inl h)
    ·exact .inr (.inr h)
  ·have hb:((firstBad t' t'.out.length t'.out).2 !=0)=true:=by simpa using hz
   have hr:readT ls=(firstBad t' t'.out.length t'.out,[]):=by rw[hr0,hb];rfl
   refine .inl ?_
   rw[hr]
   refine⟨hz,?_⟩
   unfold asmT
   rw[linesR_run ls 0 st0 st' h1]
   simp only[bne_self_eq_false,cond_false]
   rw[←hje]at hb⊢
   have:st'.jumps=jmpsM (ls.map lineM) 0 0:=r5
   rw[this]
   simp only[hb,cond_true]
end Go.Proofs.YtakljipkaoahnaaGreatDoor
