/- Parts of the proof: what the functions and the plain laws give that later parts lean on. Conditions: none beyond those that each theorem names. -/
import Derived.Deep.Slices
import Derived.Deep.Fields
import Derived.ChangeSame
import Derived.OpenShut
import Derived.Test.YtpagmlndgblhhaaGreatDoorR6
set_option maxRecDepth 100000
set_option maxHeartbeats 8000000
namespace Go.Va
open Go.Own Go.RowKit Go.Own.MapTy
def yab:Val→Val
 | .mk k n s l=>.mk k (bif k==1 then n else 0) (bif k==2 then s else⟨#[]⟩) (bif k==3 then cloneL l else[])
where cloneL:List Val→List Val
 |[]=>[]
 |x::r=>yab x::cloneL r
theorem ybQ (x:Val):yab x= .mk x.kind (bif x.kind==1 then x.num else 0) (bif x.kind==2 then x.txt else⟨#[]⟩) (bif x.kind==3 then yab.cloneL x.list else[]):=by
 cases x;rw[yab];rfl
theorem ych (l:List Val):yab.cloneL l=l.map yab:=by
 induction l with
 |nil=>rw[yab.cloneL];rfl
 |cons x r ih=>rw[yab.cloneL,ih];rfl
end Go.Va
namespace Go.Proofs.YtpagmlndgblhhaaGreatDoor
open Go.RowKit Go.Own Go.Own.MapTy Go.Va Go.Sort
open Go.Own.Cells (sz enc)
def yf7 (w:World)(x:Val)(e:Ending)(w':World):Prop:=∃c:VC,e= .returned (.agg #[.int .i64 c.kind,.int .i64 c.n,.string c.s,.slice c.la c.ln c.lc])∧Hid (CF (fun g=>w.heap.size≤g) w' c (yab x)∧Below w.heap.size w w')
theorem ykc (x:Val)
  (ck cn:Int)(cs:ByteArray)(la:Option Addr)(ln lc:Nat)(F:Nat→Prop)(w:World)(C:CF F w ⟨ck,cn,cs,la,ln,lc⟩ x)(hz:szV x≤1073741824)
  (h3:(x.kind==3)=false):
  Calls Tryz.prog 58 #[.agg #[.int .i64 ck,.int .i64 cn,.string cs,.slice la ln lc]] w (yf7 w x)
  :=by
 have hck:ck=x.kind:=C.kind;have hcn:cn=x.num:=C.n;have hcs:cs=x.txt:=C.s;have hp:=ybQ x;rw[←hck,←hcn,←hcs]at hp;rw[←hck]at h3;have _z:=hz;clear C hcs hcn hck;cases h1:(ck==1)with
 |true=>
  obtain rfl:ck=1:=by simpa using h1
  have HP:=zhd hp;clear hp h1 h3;go_enter Tryz.func58,Tryz.ntmps58;go_wp2_with fail;refine zng (v:=.agg #[.int .i64 1,.int .i64 cn,.string ⟨#[]⟩,.slice none 0 0]) (by simp only[results,Tryz.results58];go_simp) rfl ⟨⟨1,cn,⟨#[]⟩,none,0,0⟩,rfl,zhd ⟨?_,?_⟩⟩
  ·rw[HP.o];exact⟨rfl,rfl,rfl,VF.nil _ _⟩
  ·repeat(first|exact znv _ _|refine Below.setCell ?_ (by first|(simp;done)|(simp;omega)) _|refine Below.alloc ?_ (by first|(simp;done)|(simp;omega)) _)
 |false=>
  cases h2:(ck==2)with
  |true=>
   obtain rfl:ck=2:=by simpa using h2
   have HP:=zhd hp;clear hp h1 h2 h3;go_enter Tryz.func58,Tryz.ntmps58;go_wp2_with fail;refine zng (v:=.agg #[.int .i64 2,.int .i64 0,.string cs,.slice none 0 0]) (by simp only[results,Tryz.results58];go_simp) rfl ⟨⟨2,0,cs,none,0,0⟩,rfl,zhd ⟨?_,?_⟩⟩
   ·rw[HP.o];exact⟨rfl,rfl,rfl,VF.nil _ _⟩
   ·repeat(first|exact znv _ _|refine Below.setCell ?_ (by first|(simp;done)|(simp;omega)) _|refine Below.alloc ?_ (by first|(simp;done)|(simp;omega)) _)
  |false=>
   rw[h1,h2,h3]at hp;have HP:=zhd hp;clear hp;go_enter Tryz.func58,Tryz.ntmps58;go_wp2_with fail;refine zng (v:=.agg #[.int .i64 ck,.int .i64 0,.string ⟨#[]⟩,.slice none 0 0]) (by simp only[results,Tryz.results58];go_simp) rfl ⟨⟨ck,0,⟨#[]⟩,none,0,0⟩,rfl,zhd ⟨?_,?_⟩⟩
   ·rw[HP.o];exact⟨rfl,rfl,rfl,VF.nil _ _⟩
   ·repeat(first|exact znv _ _|refine Below.setCell ?_ (by first|(simp;done)|(simp;omega)) _|refine Below.alloc ?_ (by first|(simp;done)|(simp;omega)) _)
theorem yf2 {w:World}{k:Nat}{o:Obj}(h:k=w.heap.size):(w.alloc o).heap[k]? =some o:=by rw[h];exact znb _ _
def CIH (n:Nat):Prop:=∀(x:Val),x.parts≤n→∀(ck cn:Int) (cs:ByteArray) (la:Option Addr) (ln lc:Nat) (F:Nat→Prop) (w:World),CF F w ⟨ck,cn,cs,la,ln,lc⟩ x→szV x≤1073741824→
 Calls Tryz.prog 58 #[.agg #[.int .i64 ck,.int .i64 cn,.string cs,.slice la ln lc]] w (yf7 w x)
theorem ykb {l:List Val}{k:Nat}{y:Val}(h:l[k]? =some y):yab.cloneL (l.take (k+1))=yab.cloneL (l.take k)++[yab y]:=by
 rw[ych,ych,List.take_add_one,h];simp
structure ClL (w wr:World)(v:Value)(l:List Val):Prop where
 b3:wr.heap[w.heap.size+2]? =some (.cells #[.int .i64 3,.int .i64 0,.string ⟨#[]⟩,v] 38 (0,0))
 b2:wr.heap[w.heap.size+1]? =some (.cells #[.int .i64 0,.int .i64 0,.string ⟨#[]⟩,.slice none 0 0] 38 (0,0))
 row:VRow (fun g=>w.heap.size+2<g∧v.ownBlock≠some g) wr 38 v (yab.cloneL l)
 own:∀g,v.ownBlock=some g→w.heap.size+2<g
 below:Below w.heap.size w wr
theorem ClL.next {w wr W w8 w9:World}{v v1:Value}{l l2:List Val}{cs1:List VC}{c8:VC}{y:Val}{o:Obj}(h:ClL w wr v l)(hrow:RowAt wr 38 v cs1)(hcl:cs1.length=(yab.cloneL l).length)
  (hce:∀(i:Nat) (c:VC) (x:Val),cs1[i]? =some c→(yab.cloneL l)[i]? =some x→CF (fun g=>w.heap.size+2<g∧v.ownBlock≠some g) wr c x)(K0:Below wr.heap.size wr W)
  (hc:CF (fun g=>W.heap.size≤g) w8 c8 (yab y))(K8:Below W.heap.size W w8)(hl2:yab.cloneL l2=yab.cloneL l++[yab y])
  (hr1:RowAt w9 38 v1 (cs1++[c8]))(hk1:Keeps (fun j=>v.ownBlock=some j) (w8.alloc o) w9)(hf1:∀g,v1.ownBlock=some g→v.ownBlock=some g∨(w8.alloc o).heap.size≤g):ClL w (w9.setCell ⟨w.heap.size+2,3,none⟩ v1) v1 l2:=by
 have l3:=zlt h.b3;have s0:=K0.size;have s8:=K8.size;have own:∀g,v1.ownBlock=some g→w.heap.size+2<g:=fun g hg=>by
  rcases hf1 g hg with e|e
  ·exact h.own g e
  ·have e':w8.heap.size+1≤g:=by simpa using e
   omega
 have KA:Keeps (fun _=>False) wr (w8.alloc o):=(zkb ((K0.trans (K8.mono s0)))).alloc _;have K9:Keeps (fun j=>v.ownBlock=some j) wr w9:=(KA.mono (fun _ _ f=>f.elim)).trans hk1 (fun j _ e=>e);have KS:Keeps (fun j=>j=w.heap.size+2) w9 (w9.setCell ⟨w.heap.size+2,3,none⟩ v1):=Keeps.setCell (S:=fun j=>j=w.heap.size+2) (p:=⟨w.heap.size+2,3,none⟩) (Keeps.refl _ _) (.inl rfl) _;have b3:=(K9.block _ l3 (fun e=>by have:=h.own _ e;omega)).trans h.b3;have b2:=(K9.block (w.heap.size+1) (by omega) (fun e=>by have:=h.own _ e;omega)).trans h.b2;refine⟨by simp[World.setCell,zni,b3],(znn _ _ _ _ (by simp)).trans b2,?_,own,?_⟩
 ·rw[hl2]
  refine VRow.keep (S:=fun j=>j=w.heap.size+2) ?_ KS (fun g hg e=>by have e':g=w.heap.size+2:=e;omega) (fun g hg e=>by have:=own g hg;omega);exact VRow.app (F:=fun g=>w.heap.size+2<g∧v.ownBlock≠some g) hcl (fun i c x h1 h2=>(hce i c x h1 h2).keep KA (fun _ _ f=>f))
   ((hc.mono (G:=fun g=>w.heap.size+2<g∧v.ownBlock≠some g) (fun g hg _=>⟨by omega,fun e=>by have:=hrow.lt e;omega⟩)).keep (S:=fun _=>False) ((Keeps.refl _ _).alloc _) (fun _ _ f=>f))
   hr1 hk1 (fun g hg=>hg.2) (fun g hg hlt=>⟨hg.1,fun e=>(hf1 g e).elim (fun e=>hg.2 e) (fun e=>by omega)⟩)
 ·exact(h.below.trans (K9.below (by have:=h.below.size;omega) (fun j hj e=>by have:=h.own j e;omega))).setCell (p:=⟨w.heap.size+2,3,none⟩) (by show w.heap.size≤w.heap.size+2;omega) _
theorem clone_list {n:Nat}(IH:CIH n)(x:Val)(hx:x.parts≤n+1)
  (ck cn:Int)(cs:ByteArray)(la:Option Addr)(ln lc:Nat)(F:Nat→Prop)(w:World)(C:CF F w ⟨ck,cn,cs,la,ln,lc⟩ x)(hz:szV x≤1073741824)
  (h3:(x.kind==3)=true):
  Calls Tryz.prog 58 #[.agg #[.int .i64 ck,.int .i64 cn,.string cs,.slice la ln lc]] w (yf7 w x)
  :=by
 have hck:ck=x.kind:=C.kind;obtain rfl:ck=3:=by rw[hck];simpa using h3
 have hk:x.kind=3:=hck.symm;have hp:=ybQ x;rw[hk]at hp;obtain⟨hln,hlm,hE⟩:=C.l.elems;have hln:ln=x.list.length:=hln;rw[yc5,hk]at hz;have hz':szV.szL x.list+30≤1073741824:=hz;have hlm:ln≤1073741824:=by have:=yi5 x.list;omega
 have HE:=zh6 hE hln IH hx hp hz';clear hE hln IH hp hck hk C h3 hx hz hz';go_enter Tryz.func58,Tryz.ntmps58;go_wp2_with fail;go_loopg [26] (ln) (fun gk v26 wr=>∃i:Nat,v26= .int .i64 i∧i≤ln∧gk=ln - i∧Hid (∃v,ClL w wr v (x.list.take i)))
 case atStart=>
  refine⟨0,rfl,znq _,rfl,zhd ⟨.slice none 0 0,⟨?_,?_,(by rw[List.take_zero,yab.cloneL];exact VRow.nil _ _ _),(fun g hg=>by cases hg),?_⟩⟩⟩
  ·exact yf2 (by simp)
  ·exact(zne _ _ _ (by simp)).trans (yf2 (by simp))
  ·repeat(first|exact znv _ _|refine Below.setCell ?_ (by first|(simp;done)|(simp;omega)) _|refine Below.alloc ?_ (by first|(simp;done)|(simp;omega)) _)
 case round=>
  obtain⟨i,rfl,hi,hgk,HR⟩:=hrel;obtain⟨v,HR⟩:=HR.o;obtain⟨cs1,hrow,hcl,hce⟩:=HR.row;obtain⟨a3,c3,rfl⟩:=hrow.slice;have hpl:cs1.length=i:=by rw[hcl,ych];have:=HE.o.2.1;simp;omega
  rw[hpl]at hrow HR hce;have h3:=zca HR.b3 3 rfl;have h0:=zca HR.b3 0 rfl;have h1:=zca HR.b3 1 rfl;have h2:=zca HR.b3 2 rfl;have f3:∀o,wr.frozen? ⟨w.heap.size+2,o,none⟩=false:=fun o=>zfr HR.b3 o;have f2:∀o,wr.frozen? ⟨w.heap.size+1,o,none⟩=false:=fun o=>zfr HR.b2 o;have r0:=zca HR.b2 0 rfl;have r1:=zca HR.b2 1 rfl;have r2:=zca HR.b2 2 rfl;have r3:=zca HR.b2 3 rfl;have l3:w.heap.size+2<wr.heap.size:=zlt HR.b3;have HX:=zh6 HR hrow hcl hce hgk hpl;clear HR hrow hcl hce hgk hpl;by_cases hin:i<ln
  ·obtain⟨y,hy⟩:=yad (l:=x.list) (k:=i) (by have:=HE.o.2.1;omega)
   obtain⟨g,off,ha,hFg,hg,hel⟩:=HE.o.1.resolve_left (fun e=>by rw[e]at hy;simp at hy);obtain⟨c',hC,q0,q1,q2,q3⟩:=hel i y hy;subst ha;have hgl:g<wr.heap.size:=by have:=HX.o.1.below.size;omega
   have gn3:¬g=w.heap.size+2:=by omega
   rw[←HX.o.1.below.cell (p:=⟨g,_,none⟩) hg]at q0 q1 q2 q3;have hC':CF F wr c' y:=hC.keep (S:=fun _=>False) (zkb HX.o.1.below) (fun _ _ f=>f);have hin':(i:Int)<ln:=by omega
   have hyp:y.parts≤n:=by
    have:=Val.parts_lt (v:=x) (zmg hy);have:=HE.o.2.2.2.1;omega
   have hmem:=zmg hy;have CC:=zhd (fun W (K:Below wr.heap.size wr W)=>HE.o.2.2.1 y hyp c'.kind c'.n c'.s c'.la c'.ln c'.lc F W (hC'.keep (S:=fun _=>False) (zkb K) (fun _ _ f=>f)) (by have:=yi4 hmem;have:=HE.o.2.2.2.2.2;omega));have HY:=zhd (ykb hy);clear hel hC hC' hyp hmem hy;have NB:=zhd (show∀g,(Value.slice a3 i c3).ownBlock=some g→g≠w.heap.size+2 from fun g hg e=>by have:=HX.o.1.own g hg;omega);have l3':¬wr.heap.size=w.heap.size+2:=by omega
   have HBD:=zhd (show(cs1.length+[(⟨0,0,⟨#[]⟩,none,0,0⟩:VC)].length)*56≤140737488355328∧cs1.length+[(⟨0,0,⟨#[]⟩,none,0,0⟩:VC)].length≤maxLen∧cs1.length+[(⟨0,0,⟨#[]⟩,none,0,0⟩:VC)].length=i+1 from by have:=HX.o.2.2.2.2.2;unfold maxLen;simp;omega);go_wp2_with fail;go_region_law ((first
    |(go_simp;go_at_call 58;refine(CC.o _ (by repeat(first|exact znv _ _|refine Below.drew ?_|refine Below.alloc ?_ (znc _) _))).mono ?_;rintro e w8 ⟨⟨k8,n8,s8,la8,ln8,lc8⟩,rfl,H8⟩;have hb8:=(H8.o.2.block (w.heap.size+2) (by simp;omega)).trans ((zne _ _ _ l3).trans HX.o.1.b3);have y3:w8.cell? ⟨w.heap.size+2,3,none⟩=some (.slice a3 i c3):=(by rw[zch hb8];rfl);have fy:∀o,w8.frozen? ⟨w.heap.size+2,o,none⟩=false:=(fun o=>zfr hb8 o);have ly:w.heap.size+2<w8.heap.size:=(zlt hb8);have HG:=zhd hb8;clear hb8)
    |(refine yaA (α:=VC) (o:=⟨some 35,_,_,_,_,_⟩) yfc (by rfl) (.tmp 31) (.tmp 34) (by rfl) (v:=.slice a3 i c3) (u:=.slice (some ⟨w8.heap.size,0,none⟩) 1 1) (by rfl) (by rfl) (xs:=cs1) (ys:=[⟨k8,n8,s8,la8,ln8,lc8⟩]) (((HX.o.2.1.drew.alloc _).below H8.o.2).alloc _) (RowAt.lit (α:=VC) (y:=⟨k8,n8,s8,la8,ln8,lc8⟩) (znb _ _)) HBD.o.1 HBD.o.2.1 (i+1) HBD.o.2.2 ?_;intro a1 cp w9 hr1 hk1 hf1;have hb9:=(hk1.block (w.heap.size+2) (by simp;omega) (fun e=>NB.o _ e rfl)).trans ((zne _ _ _ ly).trans HG.o);have z3:w9.cell? ⟨w.heap.size+2,3,none⟩=some (.slice a3 i c3):=(by rw[zch hb9];rfl);have fz:∀o,w9.frozen? ⟨w.heap.size+2,o,none⟩=false:=(fun o=>zfr hb9 o);have lz:w.heap.size+2<w9.heap.size:=zlt hb9;have FF:=zh4 hr1 hk1 hf1 hb9;clear hr1 hk1 hf1 hb9)))
   all_goals
    go_wp2_with fail;go_roundg (ln - (i+1))
    case measure=>have:=HX.o.2.2.2.2.1;omega
    case rel=>exact⟨i+1,by simp,by omega,rfl,zhd ⟨_,HX.o.1.next HX.o.2.1 HX.o.2.2.1 HX.o.2.2.2.1 (by repeat(first|exact znv _ _|refine Below.drew ?_|refine Below.alloc ?_ (znc _) _)) H8.o.1 H8.o.2 HY.o FF.o.1 FF.o.2.1 FF.o.2.2.1⟩⟩
  ·obtain rfl:i=ln:=by omega
   have ht:x.list.take i=x.list:=zmj (by have:=HE.o.2.1;omega);go_wp2_with fail;refine zng (v:=.agg #[.int .i64 3,.int .i64 0,.string ⟨#[]⟩,.slice a3 i c3]) (by simp only[results,Tryz.results58];go_simp) rfl ⟨⟨3,0,⟨#[]⟩,a3,i,c3⟩,rfl,zhd ⟨?_,?_⟩⟩
   ·rw[HE.o.2.2.2.2.1]
    refine⟨rfl,rfl,rfl,?_⟩;have V:VF (fun g=>w.heap.size+2<g) wr (.slice a3 i c3) (yab.cloneL x.list):=by
     have h:=HX.o.1.row.vf (G:=fun g=>w.heap.size+2<g) (fun g h=>h.1) HX.o.1.own;rw[ht]at h;exact h
    refine VF.mono (F:=fun g=>w.heap.size+2<g) (fun g (h:w.heap.size+2<g) _=>(show w.heap.size≤g by omega)) (VF.keep (S:=fun j=>j=w.heap.size+1) ?_ (fun g (h:w.heap.size+2<g) e=>by have e':g=w.heap.size+1:=e;omega) V)
    repeat(first|exact Keeps.refl _ _|refine Keeps.setCell ?_ (Or.inl (by show w.heap.size+1=w.heap.size+1;rfl)) _)
   ·refine HX.o.1.below.trans ?_
    repeat(first|exact znv _ _|refine Below.setCell ?_ (by first|(simp;done)|(simp;omega)) _)
theorem yfR:∀n,CIH n
 |0=>fun x h=>by have:=x.parts_pos;omega
 |n+1=>fun x h ck cn cs la ln lc F w C hz=>by
  cases h3:(x.kind==3)with
  |false=>exact ykc x ck cn cs la ln lc F w C hz h3
  |true=>exact clone_list (yfR n) x h ck cn cs la ln lc F w C hz h3
theorem yav (x:Val)
 (ck cn:Int)(cs:ByteArray)(la:Option Addr)(ln lc:Nat)(F:Nat→Prop)(w:World)(C:CF F w ⟨ck,cn,cs,la,ln,lc⟩ x)(hz:szV x≤1073741824)
 :
 Calls Tryz.prog 58 #[.agg #[.int .i64 ck,.int .i64 cn,.string cs,.slice la ln lc]] w (yf7 w x)
 :=yfR x.parts x (znc _) ck cn cs la ln lc F w C hz
end Go.Proofs.YtpagmlndgblhhaaGreatDoor
namespace Go.Va
open Go.Own Go.RowKit
def ybn (n:Int):Val:=.mk 1 n ⟨#[]⟩ []
def yaH (b:Bool):Val:=ybn (bif b then 1 else 0)
def ybH (s:ByteArray):Val:=.mk 2 0 s []
def ycp (v:Val):Bool:=bif v.kind==1 then v.num !=0 else bif v.kind==2 then v.txt.size !=0 else bif v.kind==3 then decide (0<v.list.length)else false
structure Th where
 id:Int
 over:Bool
 result:Val
 how:Int
structure Ths where
 list:List Th
 next:Int
structure Lt where
 name:ByteArray
 v:Val
structure Cm where
 kind:Int
 time:Int
 a:Int
 b:Int
 name:ByteArray
 v:Val
structure Ev where
 id:Int
 time:Int
 kind:Int
 a:Int
 b:Int
 name:ByteArray
 text:ByteArray
 v:Val
structure MS where
 stk:List Val
 places:List Val
 at_:Nat
 input:Val
 now:Int
 timers:Ths
 acts:Ths
 letters:List Lt
 asked:Bool
 begun:Bool
 over:Bool
 trap:ByteArray
 made:List Cm
 taken:Nat
 events:Nat
 steps:Nat
def yat (id:Int):List Th→Option Nat
 |[]=>none
 |x::r=>if x.id=id then some 0 else(yat id r).map (· +1)
def yb2 (t:Ths):Ths:=⟨t.list++[⟨t.next+1,false,.mk 0 0 ⟨#[]⟩ [],0⟩],t.next+1⟩
def ycw (id how:Int)(v:Val):List Th→List Th
 |[]=>[]
 |x::r=>if x.id=id then(bif x.over then x::r else⟨x.id,true,yab v,how⟩::r)else x::ycw id how v r
def yap (name:ByteArray):List Lt→Option Nat
 |[]=>none
 |x::r=>if x.name=name then some 0 else(yap name r).map (· +1)
def yai:Val:=.mk 0 0 ⟨#[]⟩ []
namespace MS
def push (s:MS)(v:Val):MS:={s with stk:=s.stk++[v]}
def pop (s:MS):MS:={s with stk:=s.stk.dropLast}
def top (s:MS):Val:=s.stk.getLast?.getD yai
def nxt (s:MS):MS:={s with at_:=s.at_+1}
def want (s:MS)(c:Cm):MS:={s with made:=s.made++[{c with time:=s.now,v:=yab c.v}],over:=s.over||(c.kind==4||c.kind==5||c.kind==6)}
def fall (s:MS)(why:ByteArray):MS:=({s with trap:=why}:MS).want ⟨5,0,0,0,⟨#[116,114,97,112,32]⟩++why,yai⟩
def openL (s:MS)(i:Nat):MS:={s with letters:=s.letters.eraseIdx i}
def letV (s:MS)(i:Nat):Val:=(s.letters[i]?.getD ⟨⟨#[]⟩,yai⟩).v
def put (s:MS)(v:Val):MS:=if checkL v≠0 then s.fall ⟨#[108,111,110,103]⟩else s.push v
def tType (s:MS):MS:=s.fall ⟨#[116,121,112,101]⟩
def tGone (s:MS):MS:=s.fall ⟨#[103,111,110,101]⟩
def tRange (s:MS):MS:=s.fall ⟨#[114,97,110,103,101]⟩
def tMany (s:MS):MS:=s.fall ⟨#[109,97,110,121]⟩
def arith (s:MS)(op:Int)(a b:Val):MS:=
 if a.kind≠1∨b.kind≠1 then s.tType else s.push (ybn (wrap64 (if op=5 then a.num+b.num else if op=6 then a.num - b.num else a.num*b.num)))
def two (s:MS)(op:Int)(a b:Val):MS:=
 if op=8 then s.push (yaH (cmpV a b==0))else
 if op=9 then s.push (yaH (decide (cmpV a b<0)))else
 if op=30 then(if a.kind≠3∨b.kind≠1 then s.tType else s.push (yab (if 0≤b.num∧b.num<a.list.length then a.list[b.num.toNat]?.getD yai else yai)))else
 if op=32 then(if a.kind=2∧b.kind=2 then s.put (ybH (a.txt++b.txt))else if a.kind=3∧b.kind=3 then s.put (yab (.mk 3 0 ⟨#[]⟩ (a.list++b.list)))else s.tType)else
 s.arith op a b
def reckon (s:MS)(op:Int)(k:Nat):MS:=
 if op=29 then({s with stk:=s.stk.take (s.stk.length - k)}:MS).put (.mk 3 0 ⟨#[]⟩ (s.stk.drop (s.stk.length - k)))else
 if op=10 then s.pop.push (yaH (!ycp s.top))else
 if op=31 then(if s.top.kind=3 then s.pop.push (ybn s.top.list.length)else if s.top.kind=2 then s.pop.push (ybn s.top.txt.size)else s.pop.tType)else
 s.pop.pop.two op s.pop.top s.top
def begin_ (s:MS)(op:Int)(name:ByteArray):MS:=
 let v:=s.top
 let s1:=s.pop
 if op=19 then
  (match(if v.kind=1 then yat v.num s.timers.list else none)with
  |none=>s1.tGone
  |some i=>
   let x:=s.timers.list[i]?.getD ⟨0,false,yai,0⟩
   let s2:={s1 with timers:=⟨s.timers.list.eraseIdx i,s.timers.next⟩}
   (bif x.over then s2 else s2.want ⟨2,0,v.num,0,⟨#[]⟩,yai⟩).push (yaH (!x.over)))else
 if v.kind≠1∨v.num<0∨(op=20∧1073741824<v.num)then s1.tRange else
 if 64≤s.timers.list.length+s.acts.list.length then s1.tMany else
 if op=20 then(({s1.pop with acts:=yb2 s.acts}:MS).want ⟨3,0,s.acts.next+1,v.num,name,s1.top⟩).push (ybn (s.acts.next+1))else
 (({s1 with timers:=yb2 s.timers}:MS).want ⟨1,0,s.timers.next+1,v.num,⟨#[]⟩,yai⟩).push (ybn (s.timers.next+1))
def wait (s:MS)(op:Int)(name:ByteArray):Option MS:=
 if op=22 then(yap name s.letters).map (fun i=>((s.openL i).push (s.letV i)).nxt)else
 let l:=if op=21 then s.acts.list else s.timers.list
 match(if s.top.kind=1 then yat s.top.num l else none)with
 |none=>some s.tGone
 |some i=>
  match(if op=28 then yap name s.letters else none)with
  |some k=>some (((s.pop.openL k).push (s.letV k)).push (yaH true)).nxt
  |none=>
   let x:=l[i]?.getD ⟨0,false,yai,0⟩
   bif !x.over then none else
   let s1:=if op=21 then{s.pop with acts:=⟨l.eraseIdx i,s.acts.next⟩}else{s.pop with timers:=⟨l.eraseIdx i,s.timers.next⟩}
   some (if op=18 then s1.push (ybn s.now)else if op=21 then(s1.push x.result).push (ybn x.how)else(s1.push yai).push (yaH false)).nxt
def end_ (s:MS)(op:Int)(name:ByteArray):MS:=
 if op=25 then s.pop.want ⟨4,0,0,0,⟨#[]⟩,s.top⟩else if op=27 then s.pop.want ⟨6,0,0,0,⟨#[]⟩,s.top⟩else s.want ⟨5,0,0,0,name,yai⟩
def go (s:MS)(p:Img)(op:Int)(k:Nat):MS:=
 let name:=p.names[k]?.getD ⟨#[]⟩
 if op=1 then s.push (yab (p.consts[k]?.getD yai))else
 if op=2 then s.pop else
 if op=3 then s.push (yab s.top)else
 if op=4 then(s.pop.pop.push s.top).push s.pop.top else
 if op=13 then s.push (yab (s.places[k]?.getD yai))else
 if op=14 then{s.pop with places:=s.places.set k s.top}else
 if op=15 then s.push (yab s.input)else
 if op=16 then s.push (ybn s.now)else
 if op=24 then s.push (yaH s.asked)else
 if op=23 then(match yap name s.letters with
  |some i=>((s.openL i).push (s.letV i)).push (yaH true)
  |none=>(s.push yai).push (yaH false))else
 if op=17∨op=19∨op=20 then s.begin_ op name else
 if op=0 then s else s.reckon op k
end MS
def yak (p:Img)(s:MS):Option MS:=
 let c:=p.code[s.at_]?.getD ⟨0,0⟩
 let i:=(ofL c.op).1
 bif i.blocks then s.wait c.op (p.names[c.a.toNat]?.getD ⟨#[]⟩)else
 bif i.ends then some (s.end_ c.op (p.names[c.a.toNat]?.getD ⟨#[]⟩))else
 bif i.flow then some (bif c.op==11 then{s with at_:=c.a.toNat}else bif ycp s.top then s.pop.nxt else{s.pop with at_:=c.a.toNat})else
 some (s.nxt.go p c.op c.a.toNat)
def ya2 (p:Img):Nat→MS→MS
 |0,s=>s
 |f+1,s=>bif s.over then s else match yak p s with
  |none=>s
  |some s'=>ya2 p f {s' with steps:=s'.steps+1}
end Go.Va
namespace Go.Va
open Go.Own Go.RowKit
def fitV (d:Int):Val→Int→Bool×Int
 | .mk _ _ s l,left=>bif decide (left - 1<0)||(decide (12<d)||decide (1100<s.size))then(false,left - 1)else fitL (d+1) l (left - 1)
where fitL (d:Int):List Val→Int→Bool×Int
 |[],left=>(true,left)
 |x::r,left=>bif (fitV d x left).1 then fitL d r (fitV d x left).2 else(false,(fitV d x left).2)
theorem ymv (d:Int)(x:Val)(left:Int):fitV d x left=bif decide (left - 1<0)||(decide (12<d)||decide (1100<x.txt.size))then(false,left - 1)else fitV.fitL (d+1) x.list (left - 1):=by
 cases x;rw[fitV];rfl
theorem yd1 (d:Int)(x:Val)(r:List Val)(left:Int):fitV.fitL d (x::r) left=bif (fitV d x left).1 then fitV.fitL d r (fitV d x left).2 else(false,(fitV d x left).2):=by rw[fitV.fitL]
theorem yhH (d:Int)(left:Int):fitV.fitL d [] left=(true,left):=by rw[fitV.fitL]
mutual
theorem ye9:∀(x:Val) (d left:Int),left≤400→(fitV d x left).2≤400∧((fitV d x left).1=true→0≤(fitV d x left).2)
 | .mk k n s l,d,left,h=>by
   rw[fitV];by_cases h1:left - 1<0
   ·rw[zno h1]
    simp;omega
   ·rw[znd h1]
    cases(decide (12<d)||decide (1100<s.size))
    ·simp only[Bool.false_or,znl]
     exact yjS l (d+1) (left - 1) (by omega) (by omega)
    ·simp
     omega
theorem yjS:∀(l:List Val) (d left:Int),left≤400→0≤left→(fitV.fitL d l left).2≤400∧((fitV.fitL d l left).1=true→0≤(fitV.fitL d l left).2)
 |[],d,left,h,h0=>by rw[yhH];exact⟨h,fun _=>h0⟩
 |x::r,d,left,h,h0=>by
  rw[yd1];have h1:=ye9 x d left h;cases hf:(fitV d x left).1 with
  |false=>exact⟨h1.1,fun e=>by cases e⟩
  |true=>exact yjS r d _ h1.1 (h1.2 hf)
end
def Val.all (P:Int→Int→ByteArray→Prop):Val→Prop
 | .mk k n s l=>P k n s∧allL l
where allL:List Val→Prop
 |[]=>True
 |x::r=>x.all P∧allL r
theorem Val.allL_iff {P:Int→Int→ByteArray→Prop}:∀{l:List Val},Val.all.allL P l↔∀x∈l,x.all P
 |[]=>by rw[Val.all.allL];simp
 |y::r=>by rw[Val.all.allL,Val.allL_iff];simp
mutual
theorem ye8:∀(x:Val) (d left:Int),(fitV d x left).1=true→x.all (fun _ _ s=>s.size≤1100)
 | .mk k n s l,d,left,h=>by
   rw[fitV]at h;rw[Val.all];cases hc:(decide (left - 1<0)||(decide (12<d)||decide (1100<s.size)))with
   |true=>rw[hc]at h;cases h
   |false=>
    rw[hc]at h;simp only[znl]at h;simp only[Bool.or_eq_false_iff,znz]at hc;exact⟨by omega,yhG l (d+1) _ h⟩
theorem yhG:∀(l:List Val) (d left:Int),(fitV.fitL d l left).1=true→Val.all.allL (fun _ _ s=>s.size≤1100) l
 |[],_,_,_=>by rw[Val.all.allL];trivial
 |x::r,d,left,h=>by
  rw[yd1]at h;rw[Val.all.allL];cases hf:(fitV d x left).1 with
  |false=>rw[hf]at h;cases h
  |true=>
   rw[hf]at h;exact⟨ye8 x d left hf,yhG r d _ h⟩
end
end Go.Va
namespace Go.Proofs.YtpagmlndgblhhaaGreatDoor
open Go.RowKit Go.Own Go.Own.MapTy Go.Va Go.Sort
open Go.Own.Cells (sz enc)
def LX (w:World)(b:Nat)(n:Int):Prop:=w.heap[b]? =some (.cells #[.int .i64 n] 3 (0,0))
theorem LX.c {w:World}{b:Nat}{n:Int}(h:LX w b n):w.cell? ⟨b,0,none⟩=some (.int .i64 n):=by rw[zch h];rfl
theorem LX.keep {w w':World}{b:Nat}{n:Int}{S:Nat→Prop}(h:LX w b n)(K:Keeps S w w')(hs:¬S b):LX w' b n:=(K.block b (zlt h) hs).trans h
theorem LX.set {w:World}{b:Nat}{n:Int}(h:LX w b n)(m:Int):LX (w.setCell ⟨b,0,none⟩ (.int .i64 m)) b m:=by
 unfold LX at h⊢;simp[World.setCell,zni,h]
def ymK (w:World)(b:Nat)(r:Bool×Int)(e:Ending)(w':World):Prop:=e= .returned (.bool r.1)∧Hid (LX w' b r.2∧Keeps (fun j=>j=b) w w')
def ypo (w:World)(b:Nat)(d:Int)(l:List Val)(r:Bool×Int)(gk:Nat)(v31:Value)(wr:World):Prop:=
 ∃(i:Nat) (cur:Int),v31= .int .i64 i∧i≤l.length∧gk=l.length - i∧LX wr b cur∧Keeps (fun j=>j=b) w wr∧fitV.fitL d (l.drop i) cur=r∧0≤cur∧cur≤400
end Go.Proofs.YtpagmlndgblhhaaGreatDoor
namespace Go.Proofs.YtpagmlndgblhhaaGreatDoor
open Go.ChangeShapes Go.WideShapes Go.Deep Go.RowKit Go.Own Go.Va
open Go.Own.Cells (sz enc)
section
variable{H:Type} {tok:TypeId×Value→H} {P:Program} {w:World} {base:Nat} {spare:Nat→Bool} {held:Bool}
theorem yjC {n:Int}(h:(Lit.int .i64 n).wf=true): -9223372036854775808≤n∧n≤9223372036854775807:=by
 have:IntKind.i64.min≤n∧n≤9223372036854775807:=by simpa[Lit.wf,IntKind.bits,IntKind.signed]using h
 exact this
theorem ydP {α:Type}[Cells α]{tS tE:TypeId}(ht:P.underlying tS=some (.slice tE))(hc:P.cellsOf tE=sz α)(h0:0<sz α){Q:α→Prop}{fuel:Nat}{cs:List Value}{x:DataW H×List MemPlace}(dflt:α)
  (hel:∀m,m<fuel→∀cs x,cs.length=sz α→DataW.trod tok P w base spare held m tE cs=some x→∃y:α,cs=enc y∧Q y)
  (h:DataW.trod tok P w base spare held fuel tS cs=some x):∃a len cap,cs=[.slice a len cap]∧∃ys:List α,RdF (fun j=>j<w.heap.size) w (.slice a len cap) ys∧∀y∈ys,Q y:=by
 rcases DataW.trod_slice ht h with⟨rfl,_⟩|⟨a,len,cap,elems,rest,n,rfl,rfl,_,_,hl,hm,hlen,hat,_⟩
 ·exact⟨none,0,0,rfl,[],RdF.nil _ _,fun y hy=>by cases hy⟩
 ·have cell:∀i,i<len→∃y:α,Q y∧∀j u,(enc y)[j]? =some u→w.cell? (a.add (i*sz α+j))=some u:=by
   intro i hi;have h1:=hat i hi;rw[List.getElem?_eq_getElem (by omega),Option.bind_eq_some_iff]at h1;obtain⟨cs',hcs,htr⟩:=h1;obtain⟨_,hcl,hcell⟩:=World.cells?_some hcs;rw[hc]at hcl;obtain⟨y,hy,hq⟩:=hel n (Nat.lt_succ_self n) cs' _ hcl htr;refine⟨y,hq,fun j u hj=> ?_⟩;have hjl:j<sz α:=by have:=(zge hj).1;rwa[Cells.len]at this
   rw[hc]at hcell;rw[←Go.Deep.add_add,hcell j hjl,hy];exact hj
  have hch:=Classical.axiomOfChoice (fun i=>show∃y:α,i<len→Q y∧∀j u,(enc y)[j]? =some u→w.cell? (a.add (i*sz α+j))=some u from by
   by_cases hi:i<len
   ·obtain⟨y,h⟩:=cell i hi;exact⟨y,fun _=>h⟩
   ·exact⟨dflt,fun h=>absurd h hi⟩)
  obtain⟨f,hf⟩:=hch;refine⟨some a,len,cap,rfl,(List.range len).map f,⟨some a,cap,by simp,by simpa using hl,hm,?_⟩,?_⟩
  ·intro i y hy
   have hi:i<len:=by have:=(zge hy).1;simpa using this
   simp[hi]at hy;subst hy;obtain⟨_,h2⟩:=hf i hi;obtain⟨b,off,rfl,hb⟩:∃b off,a=⟨b,off,none⟩∧b<w.heap.size:=by
    have hlen2:(enc (f 0)).length=sz α:=Cells.len _;have hu:(enc (f 0))[0]? =some ((enc (f 0))[0]'(by omega)):=List.getElem?_eq_getElem _;have hc:=(hf 0 (by omega)).2 0 _ hu;simp only[Nat.zero_mul,Nat.add_zero]at hc;obtain⟨b,off,spot⟩:=a;have hs:spot=none:=by simpa[Addr.add]using World.cell?_spot hc
    subst hs;exact⟨b,off,rfl,by simpa[Addr.add]using World.block_lt_of_cell? w _ hc⟩
   refine⟨b,off,rfl,hb,hb,fun j u hj=> ?_⟩;have:=h2 j u hj;simp only[Go.WideShapes.add_plain]at this;exact this
  ·intro y hy
   obtain⟨i,hi,rfl⟩:=List.mem_map.1 hy;exact(hf i (List.mem_range.1 hi)).1
theorem yjE {α:Type}{R:α→Val→Prop}:∀(ys:List α),(∀y∈ys,∃v,R y v)→∃l:List Val,ys.length=l.length∧∀(i:Nat) (c:α) (x:Val),ys[i]? =some c→l[i]? =some x→R c x
 |[],_=>⟨[],rfl,fun i c x h=>by simp at h⟩
 |y::r,h=>by
  obtain⟨v,hv⟩:=h y (zmf ..);obtain⟨l,h1,h2⟩:=yjE r (fun z hz=>h z (zme _ hz));refine⟨v::l,by simp[h1],fun i c x hc hx=> ?_⟩;cases i with
  |zero=>
   simp at hc hx;subst hc hx;exact hv
  |succ i=>exact h2 i c x (by simpa using hc) (by simpa using hx)
def B64 (k n:Int)(_:ByteArray):Prop:=(-9223372036854775808≤k∧k≤9223372036854775807)∧ -9223372036854775808≤n∧n≤9223372036854775807
theorem yjV {cs:List Value}(h:cs.length=4):∃a b c d,cs=[a,b,c,d]:=by
 match cs,h with
 |[a,b,c,d],_=>exact⟨a,b,c,d,rfl⟩
theorem yjD {w:World}{F:Nat→Prop}{v:Value}{ys:List VC}(hr:RdF F w v ys)(hq:∀y∈ys,∃x:Val,CF F w y x∧x.all B64):∃l:List Val,VF F w v l∧Val.all.allL B64 l:=by
 obtain⟨l,h1,h2⟩:=yjE (R:=fun(y:VC) (x:Val)=>CF F w y x∧x.all B64) ys hq;refine⟨l,.mk v ys l hr h1 (fun i c x hc hx=>⟨(h2 i c x hc hx).1.kind,(h2 i c x hc hx).1.n,(h2 i c x hc hx).1.s⟩) (fun i c x hc hx=>(h2 i c x hc hx).1.l),Val.allL_iff.2 (fun x hx=> ?_)⟩;obtain⟨i,hi⟩:=List.mem_iff_getElem?.1 hx;have hil:i<ys.length:=by rw[h1];exact(zge hi).1
 exact(h2 i _ x (List.getElem?_eq_getElem hil) hi).2
theorem yk6:Tryz.prog.cellsOf 3=1:=by kernel_rfl
theorem ynf:Tryz.prog.cellsOf 2=1:=by kernel_rfl
theorem ymh:Tryz.prog.cellsOf 9=1:=by kernel_rfl
theorem ylE:Tryz.prog.cellsOf 25=1:=by kernel_rfl
theorem ymg:Tryz.prog.cellsOf 38=4:=by kernel_rfl
theorem yoc:Tryz.prog.cellsOf 106=2:=by kernel_rfl
theorem yng:Tryz.prog.cellsOf 24=1:=by kernel_rfl
theorem ymi:Tryz.prog.cellsOf 26=1:=by kernel_rfl
theorem yod:Tryz.prog.cellsOf 28=4:=by kernel_rfl
theorem yhp:∀(fuel:Nat) (cs:List Value) (x:DataW H×List MemPlace),cs.length=4→DataW.trod tok Tryz.prog w base spare held fuel 38 cs=some x→∃y:VC,cs=enc y∧∃v:Val,CF (fun j=>j<w.heap.size) w y v∧v.all B64:=by
 intro fuel
 induction fuel using Nat.strongRecOn with
 |_ fuel ih=>
  intro cs x hl h;obtain⟨xs,n,rfl,rfl,_,hxl,hf⟩:=DataW.trod_struct Tryz.underlying38 h;obtain⟨c0,c1,c2,c3,rfl⟩:=yjV hl
  match xs,hxl with
  |[x0,x1,x2,x3],_=>
   have h0:=hf 0 _ rfl;have h1:=hf 1 _ rfl;have h2:=hf 2 _ rfl;have h3:=hf 3 _ rfl;simp[yk6,ynf,ymh,ylE]at h0 h1 h2 h3;obtain⟨n0,e0,_,b0⟩:=DataW.trod_int Tryz.underlying3 h0;obtain⟨n1,e1,_,b1⟩:=DataW.trod_int Tryz.underlying2 h1;obtain⟨s2,e2,_,_⟩:=DataW.trod_string Tryz.underlying9 h2;obtain⟨la,ln,lc,e3,ys,hr,hq⟩:=ydP (α:=VC) (Q:=fun y=>∃v:Val,CF (fun j=>j<w.heap.size) w y v∧v.all B64) Tryz.underlying25 ymg (by decide) ⟨0,0,.empty,none,0,0⟩ (fun m hm cs x hcl ht=>ih m (by omega) cs x hcl ht) h3;simp at e0 e1 e2 e3;subst e0 e1 e2 e3;obtain⟨l,hvf,hall⟩:=yjD hr hq;refine⟨⟨n0,n1,s2,la,ln,lc⟩,rfl,.mk n0 n1 s2 l,⟨rfl,rfl,rfl,hvf⟩,?_⟩;rw[Val.all];exact⟨⟨yjC b0,yjC b1⟩,hall⟩
theorem yio {r:Reach}{b0:Nat}{v:Value}{d:DataW H}{p:List MemPlace}(hv:Value.okWide Tryz.prog w r b0 28 v)(h:DataW.Trod tok Tryz.prog w base spare held 28 v d p):
  ∃(i:IC) (im:Img),v= .agg #[.slice i.ca i.cn i.cc,.slice i.ka i.kn i.kc,.slice i.na i.nn i.nc,.int .i64 i.pl]∧IAt (fun j=>j<w.heap.size) w i im∧Val.all.allL B64 im.consts∧(∀c∈im.code,-9223372036854775808≤c.a∧c.a≤9223372036854775807):=by
 obtain⟨cs,rfl,hsz⟩:=okWide_struct Tryz.underlying28 hv;obtain⟨fuel,hf⟩:=h;rw[yod]at hsz;have hl4:cs.toList.length=4:=by simpa using hsz
 obtain⟨xs,n,rfl,_,_,hxl,hf⟩:=DataW.trod_struct Tryz.underlying28 hf;obtain⟨c0,c1,c2,c3,hl⟩:=yjV hl4
 match xs,hxl with
 |[x0,x1,x2,x3],_=>
  have h0:=hf 0 _ rfl;have h1:=hf 1 _ rfl;have h2:=hf 2 _ rfl;have h3:=hf 3 _ rfl;simp[Value.cells,hl,yk6,yng,ymi,ylE]at h0 h1 h2 h3;obtain⟨ca,cn,cc,e0,ys0,r0,q0⟩:=ydP (α:=In) (Q:=fun y=> -9223372036854775808≤y.a∧y.a≤9223372036854775807) Tryz.underlying24 yoc (by decide) ⟨0,0⟩ (fun m hm cs x hcl ht=>by
   obtain⟨us,m2,_,_,_,hul,hg⟩:=DataW.trod_struct Tryz.underlying106 ht
   match cs,hcl with
   |[u,v],_=>
    match us,hul with
    |[y0,y1],_=>
     have g0:=hg 0 _ rfl;have g1:=hg 1 _ rfl;simp[yk6]at g0 g1;obtain⟨m0,f0,_,_⟩:=DataW.trod_int Tryz.underlying3 g0;obtain⟨m1,f1,_,b1⟩:=DataW.trod_int Tryz.underlying3 g1;simp at f0 f1;subst f0 f1;exact⟨⟨m0,m1⟩,rfl,yjC b1⟩) h0
  obtain⟨ka,kn,kc,e1,ys1,r1,q1⟩:=ydP (α:=VC) (Q:=fun y=>∃v:Val,CF (fun j=>j<w.heap.size) w y v∧v.all B64) Tryz.underlying25 ymg (by decide) ⟨0,0,.empty,none,0,0⟩ (fun m _ cs x hcl ht=>yhp m cs x hcl ht) h1;obtain⟨na,nn,nc,e2,ys2,r2,_⟩:=ydP (α:=ByteArray) (Q:=fun _=>True) Tryz.underlying26 ymh (by decide) .empty (fun m hm cs x hcl ht=>by
   obtain⟨s,e,_,_⟩:=DataW.trod_string Tryz.underlying9 ht;exact⟨s,e,trivial⟩) h2
  obtain⟨pl,e3,_,_⟩:=DataW.trod_int Tryz.underlying3 h3;simp at e0 e1 e2 e3;subst e0 e1 e2 e3;obtain⟨l,hvf,hall⟩:=yjD r1 q1;refine⟨⟨ca,cn,cc,ka,kn,kc,na,nn,nc,pl⟩,⟨ys0,l,ys2,pl⟩,?_,⟨r0,hvf,r2,rfl⟩,hall,q0⟩
  congr 1
  exact Array.ext' (by simpa using hl)
end
theorem ymT:∀{x:Val},x.all B64→x.all (fun _ _ s=>s.size≤1100)→x.wf
 | .mk k n s l,h1,h2=>by
   rw[Val.all]at h1 h2;rw[Val.wf];exact⟨h1.1.1,h1.1.2,by have:=h2.1;omega,wfL_of h1.2 h2.2⟩
where wfL_of:∀{l:List Val},Val.all.allL B64 l→Val.all.allL (fun _ _ s=>s.size≤1100) l→Val.wf.wfL l
 |[],_,_=>by rw[Val.wf.wfL];trivial
 |x::r,h1,h2=>by
  rw[Val.all.allL]at h1 h2;rw[Val.wf.wfL];exact⟨ymT h1.1 h2.1,wfL_of h1.2 h2.2⟩
end Go.Proofs.YtpagmlndgblhhaaGreatDoor
namespace Go.Proofs.YtpagmlndgblhhaaGreatDoor
open Go.RowKit Go.Own Go.Own.MapTy Go.Va Go.Sort
open Go.Own.Cells (sz enc)
def textB (ls:List (List UInt8)):List UInt8:=ls.flatMap (fun l=>l++[10])
end Go.Proofs.YtpagmlndgblhhaaGreatDoor
namespace Go.Va
open Go.Own Go.RowKit
structure KV where
 vh:Value
 vt:Value
structure KSt where
 heights:List Int
 todo:List Nat
 most:Int
def KO (v:KV)(b j:Nat):Prop:=j=b∨v.vh.ownBlock=some j∨v.vt.ownBlock=some j
structure KS (W:World)(tc ti:TypeId)(b:Nat)(cv:Value)(v:KV)(st:KSt):Prop where
 h:W.heap[b]? =some (.cells #[cv,v.vh,v.vt,.int .i64 st.most] tc (0,0))
 heights:RowAt W ti v.vh st.heights
 todo:RowAt W ti v.vt st.todo
 sh:∀j,v.vh.ownBlock=some j→j≠b
 sd:∀j,v.vt.ownBlock=some j→j≠b∧v.vh.ownBlock≠some j
 lo:∀j,KO v b j→b≤j
def KK (b:Nat)(v:KV)(W:World)(v':KV)(W':World):Prop:=Keeps (KO v b) W W'∧∀j,KO v' b j→KO v b j∨W.heap.size≤j
theorem KK.refl (b:Nat)(v:KV)(W:World):KK b v W v W:=⟨Keeps.refl _ _,fun _ h=>.inl h⟩
theorem KK.trans {b:Nat}{v v' v'':KV}{W W' W'':World}(h:KK b v W v' W')(k:KK b v' W' v'' W''):KK b v W v'' W'':=by
 refine⟨h.1.trans k.1 (fun j hj e=>(h.2 j e).resolve_right (by omega)),fun j hj=> ?_⟩;rcases k.2 j hj with h1|h1
 ·exact h.2 j h1
 ·exact .inr (znf h.1.size h1)
theorem KK.ext {b:Nat}{v:KV}{W W':World}(K:Below W.heap.size W W'):KK b v W v W':=⟨(zkb (S:=fun _=>False) K).mono (fun _ _ f=>f.elim),fun _ h=>.inl h⟩
section
variable{W W':World} {tc ti:TypeId} {b:Nat} {cv:Value} {v:KV} {st:KSt}
theorem KS.lt (R:KS W tc ti b cv v st){j:Nat}(h:KO v b j):j<W.heap.size:=by
 rcases h with rfl|h|h
 ·exact zlt R.h
 ·exact R.heights.lt h
 ·exact R.todo.lt h
theorem KS.ext (R:KS W tc ti b cv v st)(K:Below W.heap.size W W'):KS W' tc ti b cv v st:=
 have K0:Keeps (fun _=>False) W W':=zkb K
 ⟨(K.block b (zlt R.h)).trans R.h,R.heights.keep K0 (fun _ _ f=>f),R.todo.keep K0 (fun _ _ f=>f),R.sh,R.sd,R.lo⟩
theorem KS.setT (R:KS W tc ti b cv v st){w1:World}{v1:Value}{l1:List Nat}(hr:RowAt w1 ti v1 l1)(K:Keeps (fun j=>v.vt.ownBlock=some j) W w1)(hf:∀g,v1.ownBlock=some g→v.vt.ownBlock=some g∨W.heap.size≤g):
  KS (w1.setCell ⟨b,2,none⟩ v1) tc ti b cv {v with vt:=v1} {st with todo:=l1}∧KK b v W {v with vt:=v1} (w1.setCell ⟨b,2,none⟩ v1):=by
 have hb:w1.heap[b]? =some (.cells #[cv,v.vh,v.vt,.int .i64 st.most] tc (0,0)):=(K.block b (zlt R.h) (fun e=>(R.sd b e).1 rfl)).trans R.h;have KB:Keeps (fun j=>j=b) w1 (w1.setCell ⟨b,2,none⟩ v1):=Keeps.setCell (S:=fun j=>j=b) (p:=⟨b,2,none⟩) (Keeps.refl _ _) (.inl rfl) _;have K2:Keeps (fun j=>j=b∨v.vt.ownBlock=some j) W (w1.setCell ⟨b,2,none⟩ v1):=(K.mono (fun _ _ e=>.inr e)).trans KB (fun _ _ e=>.inl e);have hlt:∀j,KO v b j→j<W.heap.size:=fun j=>R.lt;have hbl:=zlt R.h;have hn:∀j,v1.ownBlock=some j→j≠b∧v.vh.ownBlock≠some j:=fun j hj=>by
  rcases hf j hj with h|h
  ·exact R.sd j h
  ·exact⟨by omega,fun e=>by have:=hlt j (.inr (.inl e));omega⟩
 refine⟨⟨by simp[World.setCell,zni,hb],R.heights.keep K2 (fun g hg e=>e.elim (R.sh g hg) (fun e=>(R.sd g e).2 hg)),hr.keep KB (fun g hg=>(hn g hg).1),R.sh,hn,fun j hj=> ?_⟩,K2.mono (fun j _ e=>e.elim .inl (fun e=>.inr (.inr e))),fun j hj=> ?_⟩
 ·rcases hj with e|e|e
  ·exact R.lo j (.inl e)
  ·exact R.lo j (.inr (.inl e))
  ·rcases hf j e with h|h
   ·exact R.lo j (.inr (.inr h))
   ·omega
 ·rcases hj with e|e|e
  ·exact .inl (.inl e)
  ·exact .inl (.inr (.inl e))
  ·exact(hf j e).imp (fun h=>.inr (.inr h)) id
theorem KS.setH (R:KS W tc ti b cv v st){w1:World}{v1:Value}{l1:List Int}(hr:RowAt w1 ti v1 l1)(K:Keeps (fun j=>v.vh.ownBlock=some j) W w1)(hf:∀g,v1.ownBlock=some g→v.vh.ownBlock=some g∨W.heap.size≤g):
  KS (w1.setCell ⟨b,1,none⟩ v1) tc ti b cv {v with vh:=v1} {st with heights:=l1}∧KK b v W {v with vh:=v1} (w1.setCell ⟨b,1,none⟩ v1):=by
 have hb:w1.heap[b]? =some (.cells #[cv,v.vh,v.vt,.int .i64 st.most] tc (0,0)):=(K.block b (zlt R.h) (fun e=>R.sh b e rfl)).trans R.h;have KB:Keeps (fun j=>j=b) w1 (w1.setCell ⟨b,1,none⟩ v1):=Keeps.setCell (S:=fun j=>j=b) (p:=⟨b,1,none⟩) (Keeps.refl _ _) (.inl rfl) _;have K2:Keeps (fun j=>j=b∨v.vh.ownBlock=some j) W (w1.setCell ⟨b,1,none⟩ v1):=(K.mono (fun _ _ e=>.inr e)).trans KB (fun _ _ e=>.inl e);have hlt:∀j,KO v b j→j<W.heap.size:=fun j=>R.lt;have hbl:=zlt R.h;have hn:∀j,v1.ownBlock=some j→j≠b∧v.vt.ownBlock≠some j:=fun j hj=>by
  rcases hf j hj with h|h
  ·exact⟨R.sh j h,fun e=>(R.sd j e).2 h⟩
  ·exact⟨by omega,fun e=>by have:=hlt j (.inr (.inr e));omega⟩
 refine⟨⟨by simp[World.setCell,zni,hb],hr.keep KB (fun g hg=>(hn g hg).1),R.todo.keep K2 (fun g hg e=>e.elim (R.sd g hg).1 (fun e=>(R.sd g hg).2 e)),fun j hj=>(hn j hj).1,fun j hj=>⟨(R.sd j hj).1,fun e=>(hn j e).2 hj⟩,fun j hj=> ?_⟩,K2.mono (fun j _ e=>e.elim .inl (fun e=>.inr (.inl e))),fun j hj=> ?_⟩
 ·rcases hj with e|e|e
  ·exact R.lo j (.inl e)
  ·rcases hf j e with h|h
   ·exact R.lo j (.inr (.inl h))
   ·omega
  ·exact R.lo j (.inr (.inr e))
 ·rcases hj with e|e|e
  ·exact .inl (.inl e)
  ·exact(hf j e).imp (fun h=>.inr (.inl h)) id
  ·exact .inl (.inr (.inr e))
theorem KS.setM (R:KS W tc ti b cv v st)(m:Int):KS (W.setCell ⟨b,3,none⟩ (.int .i64 m)) tc ti b cv v {st with most:=m}∧KK b v W v (W.setCell ⟨b,3,none⟩ (.int .i64 m)):=by
 have KB:Keeps (fun j=>j=b) W (W.setCell ⟨b,3,none⟩ (.int .i64 m)):=Keeps.setCell (S:=fun j=>j=b) (p:=⟨b,3,none⟩) (Keeps.refl _ _) (.inl rfl) _;exact⟨⟨by simp[World.setCell,zni,R.h],R.heights.keep KB (fun g hg=>R.sh g hg),R.todo.keep KB (fun g hg=>(R.sd g hg).1),R.sh,R.sd,R.lo⟩,KB.mono (fun j _ e=>.inl e),fun j h=>.inl h⟩
theorem KS.poke (R:KS W tc ti b cv v st){g off n cap:Nat}(hv:v.vh= .slice (some ⟨g,off,none⟩) n cap){k:Nat}{x:Int}(hx:st.heights[k]? =some x)(h:Int):
  KS (W.setCell ⟨g,off+k,none⟩ (.int .i64 h)) tc ti b cv v {st with heights:=st.heights.set k h}∧KK b v W v (W.setCell ⟨g,off+k,none⟩ (.int .i64 h)):=by
 have hg:v.vh.ownBlock=some g:=by rw[hv];rfl
 have KB:Keeps (fun j=>j=g) W (W.setCell ⟨g,off+k,none⟩ (.int .i64 h)):=Keeps.setCell (S:=fun j=>j=g) (p:=⟨g,off+k,none⟩) (Keeps.refl _ _) (.inl rfl) _;refine⟨⟨(KB.block b (zlt R.h) (fun e=>R.sh g hg e.symm)).trans R.h,?_,R.todo.keep KB (fun j hj e=>(R.sd j hj).2 (by subst e;exact hg)),R.sh,R.sd,R.lo⟩,KB.mono (fun j _ e=>by subst e;exact .inr (.inl hg)),fun j h=>.inl h⟩;have:=R.heights;rw[hv]at this⊢;have h2:=this.setOne hx (y:=h) (j:=0) (u:=.int .i64 h) (by decide) rfl;rwa[show off+(k*Cells.sz Int+0)=off+k from by simp[Cells.sz]]at h2
end
def comeL (n k:Nat)(h:Int)(st:KSt):Int×KSt:=
 bif decide (n≤k)then(132,st)else
 bif decide (st.heights.getD k 0<0)then(0,{st with heights:=st.heights.set k h,todo:=st.todo++[k]})else
 bif st.heights.getD k 0 !=h then(131,st)else(0,st)
end Go.Va
namespace Go.Proofs.YtpagmlndgblhhaaGreatDoor
open Go.RowKit Go.Own Go.Own.MapTy Go.Va Go.Sort
open Go.Own.Cells (sz enc)
abbrev KX (W:World)(b:Nat)(cv:Value)(v:KV)(st:KSt):Prop:=KS W 177 3 b cv v st
def ynO (W:World)(b:Nat)(cv:Value)(v:KV)(r:Int×KSt)(e:Ending)(w':World):Prop:=∃v',e= .returned (.int .i64 r.1)∧Hid (KX w' b cv v' r.2∧KK b v W v' w')
theorem ylk:ElemOf Nat Tryz.prog 79 3 8:=yb0 Tryz.underlying79 (z:=.int .i64 0) (n:=1) (by kernel_rfl) rfl rfl
theorem ynq:ElemOf Int Tryz.prog 79 3 8:=yb0 Tryz.underlying79 (z:=.int .i64 0) (n:=1) (by kernel_rfl) rfl rfl
theorem yhL (b:Nat)(ca:Option Addr)(n cc:Nat)(v:KV)(st:KSt)(k:Nat)(h:Int)(W:World)(R:KX W b (.slice ca n cc) v st)(hn:st.heights.length=n)(ht:st.todo.length≤65536)(r:Int×KSt)(hr:comeL n k h st=r):
  Calls Tryz.prog 133 #[.pointer (some ⟨b,0,none⟩),.int .i64 k,.int .i64 h] W (ynO W b (.slice ca n cc) v r):=by
 obtain⟨vh,vt⟩:=v;obtain⟨ta,tc,rfl⟩:∃a cap,vt= .slice a st.todo.length cap:=R.todo.slice;obtain⟨ha,hc,rfl⟩:∃a cap,vh= .slice a st.heights.length cap:=R.heights.slice;have b0:=zlt R.h;have qq:∀o,W.cell? ⟨b,o,none⟩=(#[.slice ca n cc,.slice ha st.heights.length hc,.slice ta st.todo.length tc,.int .i64 st.most]:Array Value)[o]? :=fun o=>by rw[zch R.h]
 have q0:=qq 0;have q1:=qq 1;have q2:=qq 2;simp only[zmc,zma,zmb]at q0 q1 q2;clear qq;have f0:∀o,W.frozen? ⟨b,o,none⟩=false:=fun o=>zfr R.h o;unfold comeL at hr;have HR:=zhd R;clear R;go_enter Tryz.func133,Tryz.ntmps133;by_cases hk:n≤k
 ·have e1:(n:Int)≤k:=by omega
  rw[zno hk]at hr;simp only[znm]at hr;subst hr;clear hk;go_wp2_with fail;go_ret;exact⟨_,rfl,zhd ⟨HR.o,KK.refl _ _ _⟩⟩
 ·have e1:¬(n:Int)≤k:=by omega
  rw[znd hk]at hr;simp only[znl]at hr;obtain⟨x,hx⟩:=yad (l:=st.heights) (k:=k) (by omega);have hkn:(k:Int)<st.heights.length:=by omega
  rw[List.getD_eq_getElem?_getD,hx,Option.getD_some]at hr;obtain⟨g,off,rfl,hg⟩:=HR.o.heights.addr hx;have m0:=ycR HR.o.heights hx;have hgb:¬g=b:=HR.o.sh g rfl;have hbg:¬b=g:=fun e=>hgb e.symm;have fg:∀o,W.frozen? ⟨g,o,none⟩=false:=fun o=>HR.o.heights.frozen o;have HN:=zh2 hn ht;clear hn ht hk;cases h1:decide (x<0)with
  |true=>
   have e2:x<0:=znx h1;rw[h1]at hr;simp only[znm]at hr;subst hr;have PK:=zhd (HR.o.poke rfl hx h);have AN:=zhd (show((W.setCell ⟨g,off+k,none⟩ (.int .i64 h)).alloc (.cells #[.int .i64 k] 3)).heap[W.heap.size]? =some (.cells (Cells.enc k).toArray 3 (0,0))from by
    have:=znb (W.setCell ⟨g,off+k,none⟩ (.int .i64 h)) (.cells #[.int .i64 k] 3);rwa[yb4]at this)
   go_wp2_with (at_builtin;go_must (refine ybR (α:=Nat) ylk rfl (.tmp 35) (.tmp 37) rfl (PK.o.1.todo.alloc _) k rfl rfl AN.o (by have:=HN.o.2;dsimp only;omega) (by have:=HN.o.2;dsimp only;unfold maxLen;omega) ?_);intro a1 q1 w1 hr1 hk1 hf1;have hb1:=(hk1.block b (by simp;omega) (fun e=>(PK.o.1.sd b e).1 rfl)).trans ((zne _ _ _ (by simp;omega)).trans PK.o.1.h);have c2:w1.cell? ⟨b,2,none⟩=some (.slice ta st.todo.length tc):=by{rw[zch hb1];rfl};have f1:∀o,w1.frozen? ⟨b,o,none⟩=false:=fun o=>zfr hb1 o;have b1:b<w1.heap.size:=zlt hb1;have HF:=zh3 hr1 hk1 hf1;clear hb1 hr1 hk1 hf1);have S:=(PK.o.1.ext (zal)).setT HF.o.1 HF.o.2.1 HF.o.2.2;go_ret;exact⟨_,rfl,zhd ⟨S.1,PK.o.2.trans ((KK.ext (zal)).trans S.2)⟩⟩
  |false=>
   have e2:¬x<0:=zny h1;rw[h1]at hr;simp only[znl]at hr;cases h2:(x !=h)with
   |true=>
    rw[h2]at hr;simp only[znm]at hr;subst hr;go_wp2_with fail;go_ret;exact⟨_,rfl,zhd ⟨HR.o,KK.refl _ _ _⟩⟩
   |false=>
    rw[h2]at hr;simp only[znl]at hr;subst hr;go_wp2_with fail;go_ret;exact⟨_,rfl,zhd ⟨HR.o,KK.refl _ _ _⟩⟩
end Go.Proofs.YtpagmlndgblhhaaGreatDoor
