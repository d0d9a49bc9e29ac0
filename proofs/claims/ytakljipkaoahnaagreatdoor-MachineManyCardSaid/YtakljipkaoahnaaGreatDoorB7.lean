/- Parts of the proof: what the functions and the plain laws give that later parts lean on. Conditions: none beyond those that each theorem names. -/
import Derived.Test.YtakljipkaoahnaaGreatDoorB6
set_option maxRecDepth 100000
set_option maxHeartbeats 8000000
namespace Go.Va
open Go.Own Go.RowKit Go.Own.MapTy
def cloneV:Val→Val
 | .mk k n s l=>.mk k (bif k==1 then n else 0) (bif k==2 then s else⟨#[]⟩) (bif k==3 then cloneL l else[])
where cloneL:List Val→List Val
 |[]=>[]
 |x::r=>cloneV x::cloneL r
theorem cloneV_eq (x:Val):cloneV x= .mk x.kind (bif x.kind==1 then x.num else 0) (bif x.kind==2 then x.txt else⟨#[]⟩) (bif x.kind==3 then cloneV.cloneL x.list else[]):=by
 cases x
 rw[cloneV]
 rfl
theorem cloneL_map (l:List Val):cloneV.cloneL l=l.map cloneV:=by
 induction l with
 |nil=>rw[cloneV.cloneL];rfl
 |cons x r ih=>rw[cloneV.cloneL,ih];rfl
end Go.Va
namespace Go.Proofs.YtakljipkaoahnaaGreatDoor
open Go.RowKit Go.Own Go.Own.MapTy Go.Va Go.Sort
open Go.Own.Cells (sz enc)
def ClPost (w:World)(x:Val)(e:Ending)(w':World):Prop:=∃c:VC,e= .returned (.agg #[.int .i64 c.kind,.int .i64 c.n,.string c.s,.slice c.la c.ln c.lc])∧Hid (CF (fun g=>w.heap.size≤g) w' c (cloneV x)∧Below w.heap.size w w')
theorem clone_one (x:Val)
 (ck cn:Int)(cs:ByteArray)(la:Option Addr)(ln lc:Nat)(F:Nat→Prop)(w:World)(C:CF F w ⟨ck,cn,cs,la,ln,lc⟩ x)(hz:szV x≤1073741824)
 (h3:(x.kind==3)=false):
 Calls Tryz.prog 57 #[.agg #[.int .i64 ck,.int .i64 cn,.string cs,.slice la ln lc]] w (ClPost w x)
 :=by
 have hck:ck=x.kind:=C.kind
 have hcn:cn=x.num:=C.n
 have hcs:cs=x.txt:=C.s
 have hp:=cloneV_eq x
 rw[←hck,←hcn,←hcs]at hp
 rw[←hck]at h3
 have _z:=hz
 clear C hcs hcn hck
 cases h1:(ck==1)with
 |true=>
  obtain rfl:ck=1:=by simpa using h1
  have HP:=zhd hp
  clear hp h1 h3
  go_enter Tryz.func57,Tryz.ntmps57
  go_wp2_with fail
  refine bodyPost_ret (v:=.agg #[.int .i64 1,.int .i64 cn,.string ⟨#[]⟩,.slice none 0 0]) (by simp only[results,Tryz.results57];go_simp) rfl ⟨⟨1,cn,⟨#[]⟩,none,0,0⟩,rfl,zhd ⟨?_,?_⟩⟩
  ·rw[HP.out];exact⟨rfl,rfl,rfl,VF.nil _ _⟩
  ·repeat(first|exact Below.refl _ _|refine Below.setCell ?_ (by first|(simp;done)|(simp;omega)) _|refine Below.alloc ?_ (by first|(simp;done)|(simp;omega)) _)
 |false=>
  cases h2:(ck==2)with
  |true=>
   obtain rfl:ck=2:=by simpa using h2
   have HP:=zhd hp
   clear hp h1 h2 h3
   go_enter Tryz.func57,Tryz.ntmps57
   go_wp2_with fail
   refine bodyPost_ret (v:=.agg #[.int .i64 2,.int .i64 0,.string cs,.slice none 0 0]) (by simp only[results,Tryz.results57];go_simp) rfl ⟨⟨2,0,cs,none,0,0⟩,rfl,zhd ⟨?_,?_⟩⟩
   ·rw[HP.out];exact⟨rfl,rfl,rfl,VF.nil _ _⟩
   ·repeat(first|exact Below.refl _ _|refine Below.setCell ?_ (by first|(simp;done)|(simp;omega)) _|refine Below.alloc ?_ (by first|(simp;done)|(simp;omega)) _)
  |false=>
   rw[h1,h2,h3]at hp
   have HP:=zhd hp
   clear hp
   go_enter Tryz.func57,Tryz.ntmps57
   go_wp2_with fail
   refine bodyPost_ret (v:=.agg #[.int .i64 ck,.int .i64 0,.string ⟨#[]⟩,.slice none 0 0]) (by simp only[results,Tryz.results57];go_simp) rfl ⟨⟨ck,0,⟨#[]⟩,none,0,0⟩,rfl,zhd ⟨?_,?_⟩⟩
   ·rw[HP.out];exact⟨rfl,rfl,rfl,VF.nil _ _⟩
   ·repeat(first|exact Below.refl _ _|refine Below.setCell ?_ (by first|(simp;done)|(simp;omega)) _|refine Below.alloc ?_ (by first|(simp;done)|(simp;omega)) _)
theorem at_new {w:World}{k:Nat}{o:Obj}(h:k=w.heap.size):(w.alloc o).heap[k]? =some o:=by rw[h];exact heap_alloc_new _ _
def CIH (n:Nat):Prop:=∀(x:Val),x.parts≤n→∀(ck cn:Int) (cs:ByteArray) (la:Option Addr) (ln lc:Nat) (F:Nat→Prop) (w:World),CF F w ⟨ck,cn,cs,la,ln,lc⟩ x→szV x≤1073741824→
    Calls Tryz.prog 57 #[.agg #[.int .i64 ck,.int .i64 cn,.string cs,.slice la ln lc]] w (ClPost w x)
theorem clones_at {l:List Val}{k:Nat}{y:Val}(h:l[k]? =some y):cloneV.cloneL (l.take (k+1))=cloneV.cloneL (l.take k)++[cloneV y]:=by
 rw[cloneL_map,cloneL_map,List.take_add_one,h]
 simp
structure ClL (w wr:World)(v:Value)(l:List Val):Prop where
 b3:wr.heap[w.heap.size+2]? =some (.cells #[.int .i64 3,.int .i64 0,.string ⟨#[]⟩,v] 39 (0,0))
 b2:wr.heap[w.heap.size+1]? =some (.cells #[.int .i64 0,.int .i64 0,.string ⟨#[]⟩,.slice none 0 0] 39 (0,0))
 row:VRow (fun g=>w.heap.size+2<g∧v.ownBlock≠some g) wr 39 v (cloneV.cloneL l)
 own:∀g,v.ownBlock=some g→w.heap.size+2<g
 below:Below w.heap.size w wr
theorem ClL.next {w wr W w8 w9:World}{v v1:Value}{l l2:List Val}{cs1:List VC}{c8:VC}{y:Val}{o:Obj}(h:ClL w wr v l)(hrow:RowAt wr 39 v cs1)(hcl:cs1.length=(cloneV.cloneL l).length)
 (hce:∀(i:Nat) (c:VC) (x:Val),cs1[i]? =some c→(cloneV.cloneL l)[i]? =some x→CF (fun g=>w.heap.size+2<g∧v.ownBlock≠some g) wr c x)(K0:Below wr.heap.size wr W)
 (hc:CF (fun g=>W.heap.size≤g) w8 c8 (cloneV y))(K8:Below W.heap.size W w8)(hl2:cloneV.cloneL l2=cloneV.cloneL l++[cloneV y])
 (hr1:RowAt w9 39 v1 (cs1++[c8]))(hk1:Keeps (fun j=>v.ownBlock=some j) (w8.alloc o) w9)(hf1:∀g,v1.ownBlock=some g→v.ownBlock=some g∨(w8.alloc o).heap.size≤g):ClL w (w9.setCell ⟨w.heap.size+2,3,none⟩ v1) v1 l2:=by
 have l3:=zlt h.b3
 have s0:=K0.size
 have s8:=K8.size
 have own:∀g,v1.ownBlock=some g→w.heap.size+2<g:=fun g hg=>by
  rcases hf1 g hg with e|e
  ·exact h.own g e
  ·have e':w8.heap.size+1≤g:=by simpa using e
   omega
 have KA:Keeps (fun _=>False) wr (w8.alloc o):=(zkb ((K0.trans (K8.mono s0)))).alloc _
 have K9:Keeps (fun j=>v.ownBlock=some j) wr w9:=(KA.mono (fun _ _ f=>f.elim)).trans hk1 (fun j _ e=>e)
 have KS:Keeps (fun j=>j=w.heap.size+2) w9 (w9.setCell ⟨w.heap.size+2,3,none⟩ v1):=Keeps.setCell (S:=fun j=>j=w.heap.size+2) (p:=⟨w.heap.size+2,3,none⟩) (Keeps.refl _ _) (.inl rfl) _
 have b3:=(K9.block _ l3 (fun e=>by have:=h.own _ e;omega)).trans h.b3
 have b2:=(K9.block (w.heap.size+1) (by omega) (fun e=>by have:=h.own _ e;omega)).trans h.b2
 refine⟨by simp[World.setCell,Array.getElem?_modify,b3],(Below.heap_setCell _ _ _ _ (by simp)).trans b2,?_,own,?_⟩
 ·rw[hl2]
  refine VRow.keep (S:=fun j=>j=w.heap.size+2) ?_ KS (fun g hg e=>by have e':g=w.heap.size+2:=e;omega) (fun g hg e=>by have:=own g hg;omega)
  exact VRow.app (F:=fun g=>w.heap.size+2<g∧v.ownBlock≠some g) hcl (fun i c x h1 h2=>(hce i c x h1 h2).keep KA (fun _ _ f=>f))
   ((hc.mono (G:=fun g=>w.heap.size+2<g∧v.ownBlock≠some g) (fun g hg _=>⟨by omega,fun e=>by have:=hrow.lt e;omega⟩)).keep (S:=fun _=>False) ((Keeps.refl _ _).alloc _) (fun _ _ f=>f))
   hr1 hk1 (fun g hg=>hg.2) (fun g hg hlt=>⟨hg.1,fun e=>(hf1 g e).elim (fun e=>hg.2 e) (fun e=>by omega)⟩)
 ·exact(h.below.trans (K9.below (by have:=h.below.size;omega) (fun j hj e=>by have:=h.own j e;omega))).setCell (p:=⟨w.heap.size+2,3,none⟩) (by show w.heap.size≤w.heap.size+2;omega) _
theorem clone_list {n:Nat}(IH:CIH n)(x:Val)(hx:x.parts≤n+1)
 (ck cn:Int)(cs:ByteArray)(la:Option Addr)(ln lc:Nat)(F:Nat→Prop)(w:World)(C:CF F w ⟨ck,cn,cs,la,ln,lc⟩ x)(hz:szV x≤1073741824)
 (h3:(x.kind==3)=true):
 Calls Tryz.prog 57 #[.agg #[.int .i64 ck,.int .i64 cn,.string cs,.slice la ln lc]] w (ClPost w x)
 :=by
 have hck:ck=x.kind:=C.kind
 obtain rfl:ck=3:=by rw[hck];simpa using h3
 have hk:x.kind=3:=hck.symm
 have hp:=cloneV_eq x
 rw[hk]at hp
 obtain⟨hln,hlm,hE⟩:=C.l.elems
 have hln:ln=x.list.length:=hln
 rw[szV_eq,hk]at hz
 have hz':szV.szL x.list+30≤1073741824:=hz
 have hlm:ln≤1073741824:=by have:=szL_len x.list;omega
 have HE:=zh6 hE hln IH hx hp hz'
 clear hE hln IH hp hck hk C h3 hx hz hz'
 go_enter Tryz.func57,Tryz.ntmps57
 go_wp2_with fail
 go_loopg [26] (ln) (fun gk v26 wr=>∃i:Nat,v26= .int .i64 i∧i≤ln∧gk=ln - i∧Hid (∃v,ClL w wr v (x.list.take i)))
 case atStart=>
  refine⟨0,rfl,Nat.zero_le _,rfl,zhd ⟨.slice none 0 0,⟨?_,?_,(by rw[List.take_zero,cloneV.cloneL];exact VRow.nil _ _ _),(fun g hg=>by cases hg),?_⟩⟩⟩
  ·exact at_new (by simp)
  ·exact(Below.heap_alloc _ _ _ (by simp)).trans (at_new (by simp))
  ·repeat(first|exact Below.refl _ _|refine Below.setCell ?_ (by first|(simp;done)|(simp;omega)) _|refine Below.alloc ?_ (by first|(simp;done)|(simp;omega)) _)
 case round=>
  obtain⟨i,rfl,hi,hgk,HR⟩:=hrel
  obtain⟨v,HR⟩:=HR.out
  obtain⟨cs1,hrow,hcl,hce⟩:=HR.row
  obtain⟨a3,c3,rfl⟩:=hrow.slice
  have hpl:cs1.length=i:=by rw[hcl,cloneL_map];have:=HE.out.2.1;simp;omega
  rw[hpl]at hrow HR hce
  have h3:=zca HR.b3 3 rfl
  have h0:=zca HR.b3 0 rfl
  have h1:=zca HR.b3 1 rfl
  have h2:=zca HR.b3 2 rfl
  have f3:∀o,wr.frozen? ⟨w.heap.size+2,o,none⟩=false:=fun o=>zfr HR.b3 o
  have f2:∀o,wr.frozen? ⟨w.heap.size+1,o,none⟩=false:=fun o=>zfr HR.b2 o
  have r0:=zca HR.b2 0 rfl
  have r1:=zca HR.b2 1 rfl
  have r2:=zca HR.b2 2 rfl
  have r3:=zca HR.b2 3 rfl
  have l3:w.heap.size+2<wr.heap.size:=zlt HR.b3
  have HX:=zh6 HR hrow hcl hce hgk hpl
  clear HR hrow hcl hce hgk hpl
  by_cases hin:i<ln
  ·obtain⟨y,hy⟩:=elem_at (l:=x.list) (k:=i) (by have:=HE.out.2.1;omega)
   obtain⟨g,off,ha,hFg,hg,hel⟩:=HE.out.1.resolve_left (fun e=>by rw[e]at hy;simp at hy)
   obtain⟨c',hC,q0,q1,q2,q3⟩:=hel i y hy
   subst ha
   have hgl:g<wr.heap.size:=by have:=HX.out.1.below.size;omega
   have gn3:¬g=w.heap.size+2:=by omega
   rw[←HX.out.1.below.cell (p:=⟨g,_,none⟩) hg]at q0 q1 q2 q3
   have hC':CF F wr c' y:=hC.keep (S:=fun _=>False) (zkb HX.out.1.below) (fun _ _ f=>f)
   have hin':(i:Int)<ln:=by omega
   have hyp:y.parts≤n:=by
    have:=Val.parts_lt (v:=x) (zmg hy)
    have:=HE.out.2.2.2.1
    omega
   have hmem:=zmg hy
   have CC:=zhd (fun W (K:Below wr.heap.size wr W)=>HE.out.2.2.1 y hyp c'.kind c'.n c'.s c'.la c'.ln c'.lc F W (hC'.keep (S:=fun _=>False) (zkb K) (fun _ _ f=>f)) (by have:=szL_mem hmem;have:=HE.out.2.2.2.2.2;omega))
   have HY:=zhd (clones_at hy)
   clear hel hC hC' hyp hmem hy
   have NB:=zhd (show∀g,(Value.slice a3 i c3).ownBlock=some g→g≠w.heap.size+2 from fun g hg e=>by have:=HX.out.1.own g hg;omega)
   have l3':¬wr.heap.size=w.heap.size+2:=by omega
   have HBD:=zhd (show(cs1.length+[(⟨0,0,⟨#[]⟩,none,0,0⟩:VC)].length)*56≤140737488355328∧cs1.length+[(⟨0,0,⟨#[]⟩,none,0,0⟩:VC)].length≤maxLen∧cs1.length+[(⟨0,0,⟨#[]⟩,none,0,0⟩:VC)].length=i+1 from by have:=HX.out.2.2.2.2.2;unfold maxLen;simp;omega)
   go_wp2_with fail
   go_region_law ((first
    |(go_simp;go_at_call 57;refine(CC.out _ (by repeat(first|exact Below.refl _ _|refine Below.drew ?_|refine Below.alloc ?_ (Nat.le_refl _) _))).mono ?_;rintro e w8 ⟨⟨k8,n8,s8,la8,ln8,lc8⟩,rfl,H8⟩;have hb8:=(H8.out.2.block (w.heap.size+2) (by simp;omega)).trans ((Below.heap_alloc _ _ _ l3).trans HX.out.1.b3);have y3:w8.cell? ⟨w.heap.size+2,3,none⟩=some (.slice a3 i c3):=(by rw[zch hb8];rfl);have fy:∀o,w8.frozen? ⟨w.heap.size+2,o,none⟩=false:=(fun o=>zfr hb8 o);have ly:w.heap.size+2<w8.heap.size:=(zlt hb8);have HG:=zhd hb8;clear hb8)
    |(refine step_apps (α:=VC) (o:=⟨some 35,_,_,_,_,_⟩) elemV (by rfl) (.tmp 31) (.tmp 34) (by rfl) (v:=.slice a3 i c3) (u:=.slice (some ⟨w8.heap.size,0,none⟩) 1 1) (by rfl) (by rfl) (xs:=cs1) (ys:=[⟨k8,n8,s8,la8,ln8,lc8⟩]) (((HX.out.2.1.drew.alloc _).below H8.out.2).alloc _) (RowAt.lit (α:=VC) (y:=⟨k8,n8,s8,la8,ln8,lc8⟩) (heap_alloc_new _ _)) HBD.out.1 HBD.out.2.1 (i+1) HBD.out.2.2 ?_;intro a1 cp w9 hr1 hk1 hf1;have hb9:=(hk1.block (w.heap.size+2) (by simp;omega) (fun e=>NB.out _ e rfl)).trans ((Below.heap_alloc _ _ _ ly).trans HG.out);have z3:w9.cell? ⟨w.heap.size+2,3,none⟩=some (.slice a3 i c3):=(by rw[zch hb9];rfl);have fz:∀o,w9.frozen? ⟨w.heap.size+2,o,none⟩=false:=(fun o=>zfr hb9 o);have lz:w.heap.size+2<w9.heap.size:=zlt hb9;have FF:=zh4 hr1 hk1 hf1 hb9;clear hr1 hk1 hf1 hb9)))
   all_goals
    go_wp2_with fail
    go_roundg (ln - (i+1))
    case measure=>have:=HX.out.2.2.2.2.1;omega
    case rel=>exact⟨i+1,by simp,by omega,rfl,zhd ⟨_,HX.out.1.next HX.out.2.1 HX.out.2.2.1 HX.out.2.2.2.1 (by repeat(first|exact Below.refl _ _|refine Below.drew ?_|refine Below.alloc ?_ (Nat.le_refl _) _)) H8.out.1 H8.out.2 HY.out FF.out.1 FF.out.2.1 FF.out.2.2.1⟩⟩
  ·obtain rfl:i=ln:=by omega
   have ht:x.list.take i=x.list:=List.take_of_length_le (by have:=HE.out.2.1;omega)
   go_wp2_with fail
   refine bodyPost_ret (v:=.agg #[.int .i64 3,.int .i64 0,.string ⟨#[]⟩,.slice a3 i c3]) (by simp only[results,Tryz.results57];go_simp) rfl ⟨⟨3,0,⟨#[]⟩,a3,i,c3⟩,rfl,zhd ⟨?_,?_⟩⟩
   ·rw[HE.out.2.2.2.2.1]
    refine⟨rfl,rfl,rfl,?_⟩
    have V:VF (fun g=>w.heap.size+2<g) wr (.slice a3 i c3) (cloneV.cloneL x.list):=by
     have h:=HX.out.1.row.vf (G:=fun g=>w.heap.size+2<g) (fun g h=>h.1) HX.out.1.own
     rw[ht]at h
     exact h
    refine VF.mono (F:=fun g=>w.heap.size+2<g) (fun g (h:w.heap.size+2<g) _=>(show w.heap.size≤g by omega)) (VF.keep (S:=fun j=>j=w.heap.size+1) ?_ (fun g (h:w.heap.size+2<g) e=>by have e':g=w.heap.size+1:=e;omega) V)
    repeat(first|exact Keeps.refl _ _|refine Keeps.setCell ?_ (Or.inl (by show w.heap.size+1=w.heap.size+1;rfl)) _)
   ·refine HX.out.1.below.trans ?_
    repeat(first|exact Below.refl _ _|refine Below.setCell ?_ (by first|(simp;done)|(simp;omega)) _)
theorem clone_all:∀n,CIH n
 |0=>fun x h=>by have:=x.parts_pos;omega
 |n+1=>fun x h ck cn cs la ln lc F w C hz=>by
  cases h3:(x.kind==3)with
  |false=>exact clone_one x ck cn cs la ln lc F w C hz h3
  |true=>exact clone_list (clone_all n) x h ck cn cs la ln lc F w C hz h3
theorem clone_any (x:Val)
 (ck cn:Int)(cs:ByteArray)(la:Option Addr)(ln lc:Nat)(F:Nat→Prop)(w:World)(C:CF F w ⟨ck,cn,cs,la,ln,lc⟩ x)(hz:szV x≤1073741824)
 :
 Calls Tryz.prog 57 #[.agg #[.int .i64 ck,.int .i64 cn,.string cs,.slice la ln lc]] w (ClPost w x)
 :=clone_all x.parts x (Nat.le_refl _) ck cn cs la ln lc F w C hz
end Go.Proofs.YtakljipkaoahnaaGreatDoor
namespace Go.Va
open Go.Own Go.RowKit
def vInt (n:Int):Val:=.mk 1 n ⟨#[]⟩ []
def vBool (b:Bool):Val:=vInt (bif b then 1 else 0)
def vText (s:ByteArray):Val:=.mk 2 0 s []
def trueV (v:Val):Bool:=bif v.kind==1 then v.num !=0 else bif v.kind==2 then v.txt.size !=0 else bif v.kind==3 then decide (0<v.list.length)else false
structure Th where
 id:Int
 over:Bool
 result:Val
 how:Int
structure Ths where
 list:List Th
 next:Int
structure Lt where
 name:ByteArray
 v:Val
structure Cm where
 kind:Int
 time:Int
 a:Int
 b:Int
 name:ByteArray
 v:Val
structure Ev where
 id:Int
 time:Int
 kind:Int
 a:Int
 b:Int
 name:ByteArray
 text:ByteArray
 v:Val
structure MS where
 stk:List Val
 places:List Val
 at_:Nat
 input:Val
 now:Int
 timers:Ths
 acts:Ths
 letters:List Lt
 asked:Bool
 begun:Bool
 over:Bool
 trap:ByteArray
 made:List Cm
 taken:Nat
 events:Nat
 steps:Nat
def findT (id:Int):List Th→Option Nat
 |[]=>none
 |x::r=>if x.id=id then some 0 else(findT id r).map (· +1)
def beginT (t:Ths):Ths:=⟨t.list++[⟨t.next+1,false,.mk 0 0 ⟨#[]⟩ [],0⟩],t.next+1⟩
def endT (id how:Int)(v:Val):List Th→List Th
 |[]=>[]
 |x::r=>if x.id=id then(bif x.over then x::r else⟨x.id,true,cloneV v,how⟩::r)else x::endT id how v r
def findLt (name:ByteArray):List Lt→Option Nat
 |[]=>none
 |x::r=>if x.name=name then some 0 else(findLt name r).map (· +1)
def vNil0:Val:=.mk 0 0 ⟨#[]⟩ []
namespace MS
def push (s:MS)(v:Val):MS:={s with stk:=s.stk++[v]}
def pop (s:MS):MS:={s with stk:=s.stk.dropLast}
def top (s:MS):Val:=s.stk.getLast?.getD vNil0
def nxt (s:MS):MS:={s with at_:=s.at_+1}
def want (s:MS)(c:Cm):MS:={s with made:=s.made++[{c with time:=s.now,v:=cloneV c.v}],over:=s.over||(c.kind==4||c.kind==5||c.kind==6)}
def fall (s:MS)(why:ByteArray):MS:=({s with trap:=why}:MS).want ⟨5,0,0,0,⟨#[116,114,97,112,32]⟩++why,vNil0⟩
def openL (s:MS)(i:Nat):MS:={s with letters:=s.letters.eraseIdx i}
def letV (s:MS)(i:Nat):Val:=(s.letters[i]?.getD ⟨⟨#[]⟩,vNil0⟩).v
def put (s:MS)(v:Val):MS:=if checkL v≠0 then s.fall ⟨#[108,111,110,103]⟩else s.push v
def tType (s:MS):MS:=s.fall ⟨#[116,121,112,101]⟩
def tGone (s:MS):MS:=s.fall ⟨#[103,111,110,101]⟩
def tRange (s:MS):MS:=s.fall ⟨#[114,97,110,103,101]⟩
def tMany (s:MS):MS:=s.fall ⟨#[109,97,110,121]⟩
def arith (s:MS)(op:Int)(a b:Val):MS:=
 if a.kind≠1∨b.kind≠1 then s.tType else s.push (vInt (wrap64 (if op=5 then a.num+b.num else if op=6 then a.num - b.num else a.num*b.num)))
def two (s:MS)(op:Int)(a b:Val):MS:=
 if op=8 then s.push (vBool (cmpV a b==0))else
 if op=9 then s.push (vBool (decide (cmpV a b<0)))else
 if op=30 then(if a.kind≠3∨b.kind≠1 then s.tType else s.push (cloneV (if 0≤b.num∧b.num<a.list.length then a.list[b.num.toNat]?.getD vNil0 else vNil0)))else
 if op=32 then(if a.kind=2∧b.kind=2 then s.put (vText (a.txt++b.txt))else if a.kind=3∧b.kind=3 then s.put (cloneV (.mk 3 0 ⟨#[]⟩ (a.list++b.list)))else s.tType)else
 s.arith op a b
def reckon (s:MS)(op:Int)(k:Nat):MS:=
 if op=29 then({s with stk:=s.stk.take (s.stk.length - k)}:MS).put (.mk 3 0 ⟨#[]⟩ (s.stk.drop (s.stk.length - k)))else
 if op=10 then s.pop.push (vBool (!trueV s.top))else
 if op=31 then(if s.top.kind=3 then s.pop.push (vInt s.top.list.length)else if s.top.kind=2 then s.pop.push (vInt s.top.txt.size)else s.pop.tType)else
 s.pop.pop.two op s.pop.top s.top
def begin_ (s:MS)(op:Int)(name:ByteArray):MS:=
 let v:=s.top
 let s1:=s.pop
 if op=19 then
  (match(if v.kind=1 then findT v.num s.timers.list else none)with
  |none=>s1.tGone
  |some i=>
   let x:=s.timers.list[i]?.getD ⟨0,false,vNil0,0⟩
   let s2:={s1 with timers:=⟨s.timers.list.eraseIdx i,s.timers.next⟩}
   (bif x.over then s2 else s2.want ⟨2,0,v.num,0,⟨#[]⟩,vNil0⟩).push (vBool (!x.over)))else
 if v.kind≠1∨v.num<0∨(op=20∧1073741824<v.num)then s1.tRange else
 if 64≤s.timers.list.length+s.acts.list.length then s1.tMany else
 if op=20 then(({s1.pop with acts:=beginT s.acts}:MS).want ⟨3,0,s.acts.next+1,v.num,name,s1.top⟩).push (vInt (s.acts.next+1))else
 (({s1 with timers:=beginT s.timers}:MS).want ⟨1,0,s.timers.next+1,v.num,⟨#[]⟩,vNil0⟩).push (vInt (s.timers.next+1))
def wait (s:MS)(op:Int)(name:ByteArray):Option MS:=
 if op=22 then(findLt name s.letters).map (fun i=>((s.openL i).push (s.letV i)).nxt)else
 let l:=if op=21 then s.acts.list else s.timers.list
 match(if s.top.kind=1 then findT s.top.num l else none)with
 |none=>some s.tGone
 |some i=>
  match(if op=28 then findLt name s.letters else none)with
  |some k=>some (((s.pop.openL k).push (s.letV k)).push (vBool true)).nxt
  |none=>
   let x:=l[i]?.getD ⟨0,false,vNil0,0⟩
   bif !x.over then none else
   let s1:=if op=21 then{s.pop with acts:=⟨l.eraseIdx i,s.acts.next⟩}else{s.pop with timers:=⟨l.eraseIdx i,s.timers.next⟩}
   some (if op=18 then s1.push (vInt s.now)else if op=21 then(s1.push x.result).push (vInt x.how)else(s1.push vNil0).push (vBool false)).nxt
def end_ (s:MS)(op:Int)(name:ByteArray):MS:=
 if op=25 then s.pop.want ⟨4,0,0,0,⟨#[]⟩,s.top⟩else if op=27 then s.pop.want ⟨6,0,0,0,⟨#[]⟩,s.top⟩else s.want ⟨5,0,0,0,name,vNil0⟩
def go (s:MS)(p:Img)(op:Int)(k:Nat):MS:=
 let name:=p.names[k]?.getD ⟨#[]⟩
 if op=1 then s.push (cloneV (p.consts[k]?.getD vNil0))else
 if op=2 then s.pop else
 if op=3 then s.push (cloneV s.top)else
 if op=4 then(s.pop.pop.push s.top).push s.pop.top else
 if op=13 then s.push (cloneV (s.places[k]?.getD vNil0))else
 if op=14 then{s.pop with places:=s.places.set k s.top}else
 if op=15 then s.push (cloneV s.input)else
 if op=16 then s.push (vInt s.now)else
 if op=24 then s.push (vBool s.asked)else
 if op=23 then(match findLt name s.letters with
  |some i=>((s.openL i).push (s.letV i)).push (vBool true)
  |none=>(s.push vNil0).push (vBool false))else
 if op=17∨op=19∨op=20 then s.begin_ op name else
 if op=0 then s else s.reckon op k
end MS
def stepM (p:Img)(s:MS):Option MS:=
 let c:=p.code[s.at_]?.getD ⟨0,0⟩
 let i:=(ofL c.op).1
 bif i.blocks then s.wait c.op (p.names[c.a.toNat]?.getD ⟨#[]⟩)else
 bif i.ends then some (s.end_ c.op (p.names[c.a.toNat]?.getD ⟨#[]⟩))else
 bif i.flow then some (bif c.op==11 then{s with at_:=c.a.toNat}else bif trueV s.top then s.pop.nxt else{s.pop with at_:=c.a.toNat})else
 some (s.nxt.go p c.op c.a.toNat)
def runM (p:Img):Nat→MS→MS
 |0,s=>s
 |f+1,s=>bif s.over then s else match stepM p s with
  |none=>s
  |some s'=>runM p f {s' with steps:=s'.steps+1}
end Go.Va
namespace Go.Proofs.YtakljipkaoahnaaGreatDoor
open Go.RowKit Go.Own Go.Own.MapTy Go.Va Go.Sort
open Go.Own.Cells (sz enc)
def isByte:Option Value→Bool
 |some (.int .u8 _)=>true
 |_=>false
def byteU:Option Value→UInt8
 |some (.int .u8 n)=>UInt8.ofNat n.toNat
 |_=>0
@[go_sem] theorem one_size (x:UInt8):(⟨#[x]⟩:ByteArray).size=1:=rfl
@[go_sem] theorem isByte_some (n:Int):isByte (some (.int .u8 n))=true:=rfl
@[go_sem] theorem byteU_some (n:Int):byteU (some (.int .u8 n))=UInt8.ofNat n.toNat:=rfl
@[go_sem] theorem conv_one (W:World) (b off:Nat) (h:isByte (W.cell? ⟨b,off,none⟩)=true):(convert 140 9 (.slice (some ⟨b,off,none⟩) 1 1)).run Tryz.prog W= .ok (.string ⟨#[byteU (W.cell? ⟨b,off,none⟩)]⟩) W:=by
  obtain⟨n,hn⟩:∃n,W.cell? ⟨b,off,none⟩=some (.int .u8 n):=by
   revert h
   cases hc:W.cell? ⟨b,off,none⟩with
   |none=>intro h;cases h
   |some v=>
    intro h
    cases v with
    |int k n=>cases k<;>first|exact⟨n,rfl⟩|cases h
    |_=>cases h
  rw[hn]
  have:=run_convert_bytes_arg (P:=Tryz.prog) W 140 5 Tryz.underlying140 Tryz.underlying5 b off 1 1 [n] rfl (fun i hi=>by
   obtain rfl:i=0:=by omega
   exact hn) 9 Tryz.underlying9
  exact this
end Go.Proofs.YtakljipkaoahnaaGreatDoor
namespace Go.Va
open Go.Own Go.RowKit
structure ELs (F:Nat→Prop)(w:World)(la:Option Addr)(ln:Nat)(l:List Val)(g off:Nat):Prop where
 len:ln=l.length
 max:ln≤maxLen
 addr:la=some ⟨g,off,none⟩∨l=[]
 at_:∀(i:Nat) (z:Val),l[i]? =some z→F g∧g<w.heap.size∧∃c,CF F w c z∧
    w.cell? ⟨g,off+i*4,none⟩=some (.int .i64 c.kind)∧w.cell? ⟨g,off+i*4+1,none⟩=some (.int .i64 c.n)∧w.cell? ⟨g,off+i*4+2,none⟩=some (.string c.s)∧w.cell? ⟨g,off+i*4+3,none⟩=some (.slice c.la c.ln c.lc)
end Go.Va
namespace Go.Proofs.YtakljipkaoahnaaGreatDoor
open Go.RowKit Go.Own Go.Own.MapTy Go.Va Go.Sort
open Go.Own.Cells (sz enc)
def RWPost (w:World)(r:Nat×Int)(e:Ending)(w':World):Prop:=e= .returned (.tuple #[.int .i64 r.2,.int .i64 r.1])∧Below w.heap.size w w'
def bytesS (x:Val):ByteArray:=⟨(bytesV x).toArray⟩
theorem op_cases {op:Int}(h0:0≤op)(h1:op<33):op=0∨op=1∨op=2∨op=3∨op=4∨op=5∨op=6∨op=7∨op=8∨op=9∨op=10∨op=11∨op=12∨op=13∨op=14∨op=15∨op=16∨op=17∨op=18∨op=19∨op=20∨op=21∨op=22∨op=23∨op=24∨op=25∨op=26∨op=27∨op=28∨op=29∨op=30∨op=31∨op=32:=by omega
end Go.Proofs.YtakljipkaoahnaaGreatDoor
namespace Go.Va
open Go.Own Go.RowKit Go.Own.MapTy Go.Sort
open Go.Own.Cells (sz enc)
theorem IAt.below {F:Nat→Prop}{w w':World}{i:IC}{p:Img}(h:IAt F w i p)(B:Below w.heap.size w w'):IAt F w' i p:=h.keep (S:=fun _=>False) (zkb B) (fun _ _ f=>f)
theorem IAt.code_at {F:Nat→Prop}{w wr:World}{i:IC}{p:Img}(h:IAt F w i p)(B:Below w.heap.size w wr){k:Nat}{c:In}(hx:p.code[k]? =some c):∃g off,i.ca=some ⟨g,off,none⟩∧F g∧g<w.heap.size∧g<wr.heap.size∧wr.cell? ⟨g,off+k*2,none⟩=some (.int .i64 c.op)∧wr.cell? ⟨g,off+k*2+1,none⟩=some (.int .i64 c.a):=by
 obtain⟨_,_,g,off,ha,hel⟩:=h.code.elems
 obtain⟨hF,hg,hcs⟩:=hel k c hx
 have ha:=ha.resolve_right (fun e=>by rw[e]at hx;simp at hx)
 have m0:=hcs 0 _ rfl
 have m1:=hcs 1 _ rfl
 rw[show off+(k*sz In+0)=off+k*2 from rfl,←B.cell (p:=⟨g,_,none⟩) hg]at m0
 rw[show off+(k*sz In+1)=off+k*2+1 from rfl,←B.cell (p:=⟨g,_,none⟩) hg]at m1
 exact⟨g,off,ha,hF,hg,Nat.lt_of_lt_of_le hg B.size,m0,m1⟩
theorem IAt.name_at {F:Nat→Prop}{w wr:World}{i:IC}{p:Img}(h:IAt F w i p)(B:Below w.heap.size w wr){k:Nat}{c:ByteArray}(hx:p.names[k]? =some c):∃g off,i.na=some ⟨g,off,none⟩∧F g∧g<w.heap.size∧g<wr.heap.size∧wr.cell? ⟨g,off+k,none⟩=some (.string c):=by
 obtain⟨_,_,g,off,ha,hel⟩:=h.names.elems
 obtain⟨hF,hg,hcs⟩:=hel k c hx
 have ha:=ha.resolve_right (fun e=>by rw[e]at hx;simp at hx)
 have m0:=hcs 0 _ rfl
 rw[show off+(k*sz ByteArray+0)=off+k from by simp[Cells.sz],←B.cell (p:=⟨g,_,none⟩) hg]at m0
 exact⟨g,off,ha,hF,hg,Nat.lt_of_lt_of_le hg B.size,m0⟩
theorem IAt.const_at {F:Nat→Prop}{w wr:World}{i:IC}{p:Img}(h:IAt F w i p)(B:Below w.heap.size w wr){k:Nat}{x:Val}(hx:p.consts[k]? =some x):∃g off c,i.ka=some ⟨g,off,none⟩∧F g∧g<w.heap.size∧g<wr.heap.size∧CF F wr c x∧
 wr.cell? ⟨g,off+k*4,none⟩=some (.int .i64 c.kind)∧wr.cell? ⟨g,off+k*4+1,none⟩=some (.int .i64 c.n)∧wr.cell? ⟨g,off+k*4+2,none⟩=some (.string c.s)∧wr.cell? ⟨g,off+k*4+3,none⟩=some (.slice c.la c.ln c.lc):=by
 obtain⟨_,_,hel⟩:=h.consts.elems
 obtain⟨g,off,ha,hF,hg,hel⟩:=hel.resolve_left (fun e=>by rw[e]at hx;simp at hx)
 obtain⟨c,hC,m0,m1,m2,m3⟩:=hel k x hx
 rw[←B.cell (p:=⟨g,_,none⟩) hg]at m0 m1 m2 m3
 exact⟨g,off,c,ha,hF,hg,Nat.lt_of_lt_of_le hg B.size,hC.keep (S:=fun _=>False) (zkb B) (fun _ _ f=>f),m0,m1,m2,m3⟩
end Go.Va
namespace Go.Proofs.YtakljipkaoahnaaGreatDoor
open Go.RowKit Go.Own Go.Own.MapTy Go.Va Go.Sort
open Go.Own.Cells (sz enc)
def BoxI (w:World)(b:Nat)(i:IC):Prop:=w.heap[b]? =some (.cells #[.slice i.ca i.cn i.cc,.slice i.ka i.kn i.kc,.slice i.na i.nn i.nc,.int .i64 i.pl] 27 (0,0))
theorem drop_get {α:Type}{l:List α}{i:Nat}{x:α}(h:l[i]? =some x):l.drop i=x::l.drop (i+1):=by
 rw[List.drop_eq_getElem_cons (zge h).1,(zge h).2]
end Go.Proofs.YtakljipkaoahnaaGreatDoor
namespace Go.Va
open Go.Own Go.RowKit
open Cells (sz enc)
class Elt (α:outParam Type) (β:Type) [Cells α] where
 rel:(Nat→Prop)→World→α→β→Prop
 keep:∀{F S:Nat→Prop} {w w':World} {c:α} {x:β},rel F w c x→Keeps S w w'→(∀g,F g→¬S g)→rel F w' c x
 mono:∀{F G:Nat→Prop} {w:World} {c:α} {x:β},rel F w c x→(∀g,F g→g<w.heap.size→G g)→rel G w c x
instance:Elt VC Val where
 rel:=CF
 keep:=CF.keep
 mono:=CF.mono
structure TC where
 id:Int
 over:Bool
 v:VC
 how:Int
instance:Cells TC where
 sz:=7
 enc:=fun c=>[.int .i64 c.id,.bool c.over,.int .i64 c.v.kind,.int .i64 c.v.n,.string c.v.s,.slice c.v.la c.v.ln c.v.lc,.int .i64 c.how]
 len:=fun _=>rfl
 one:=by
  intro x v hv
  simp at hv
  rcases hv with rfl|rfl|rfl|rfl|rfl|rfl|rfl<;>rfl
structure TF (F:Nat→Prop)(w:World)(c:TC)(x:Th):Prop where
 id:c.id=x.id
 over:c.over=x.over
 v:CF F w c.v x.result
 how:c.how=x.how
instance:Elt TC Th where
 rel:=TF
 keep:=fun h K hs=>⟨h.id,h.over,h.v.keep K hs,h.how⟩
 mono:=fun h hs=>⟨h.id,h.over,h.v.mono hs,h.how⟩
structure LC where
 name:ByteArray
 v:VC
instance:Cells LC where
 sz:=5
 enc:=fun c=>[.string c.name,.int .i64 c.v.kind,.int .i64 c.v.n,.string c.v.s,.slice c.v.la c.v.ln c.v.lc]
 len:=fun _=>rfl
 one:=by
  intro x v hv
  simp at hv
  rcases hv with rfl|rfl|rfl|rfl|rfl<;>rfl
structure LF (F:Nat→Prop)(w:World)(c:LC)(x:Lt):Prop where
 name:c.name=x.name
 v:CF F w c.v x.v
instance:Elt LC Lt where
 rel:=LF
 keep:=fun h K hs=>⟨h.name,h.v.keep K hs⟩
 mono:=fun h hs=>⟨h.name,h.v.mono hs⟩
structure CC where
 kind:Int
 time:Int
 a:Int
 b:Int
 name:ByteArray
 v:VC
instance:Cells CC where
 sz:=9
 enc:=fun c=>[.int .i64 c.kind,.int .i64 c.time,.int .i64 c.a,.int .i64 c.b,.string c.name,.int .i64 c.v.kind,.int .i64 c.v.n,.string c.v.s,.slice c.v.la c.v.ln c.v.lc]
 len:=fun _=>rfl
 one:=by
  intro x v hv
  simp at hv
  rcases hv with rfl|rfl|rfl|rfl|rfl|rfl|rfl|rfl|rfl<;>rfl
structure CmF (F:Nat→Prop)(w:World)(c:CC)(x:Cm):Prop where
 kind:c.kind=x.kind
 time:c.time=x.time
 a:c.a=x.a
 b:c.b=x.b
 name:c.name=x.name
 v:CF F w c.v x.v
instance:Elt CC Cm where
 rel:=CmF
 keep:=fun h K hs=>⟨h.kind,h.time,h.a,h.b,h.name,h.v.keep K hs⟩
 mono:=fun h hs=>⟨h.kind,h.time,h.a,h.b,h.name,h.v.mono hs⟩
structure EC where
 id:Int
 time:Int
 kind:Int
 a:Int
 b:Int
 name:ByteArray
 text:ByteArray
 v:VC
instance:Cells EC where
 sz:=11
 enc:=fun c=>[.int .i64 c.id,.int .i64 c.time,.int .i64 c.kind,.int .i64 c.a,.int .i64 c.b,.string c.name,.string c.text,.int .i64 c.v.kind,.int .i64 c.v.n,.string c.v.s,.slice c.v.la c.v.ln c.v.lc]
 len:=fun _=>rfl
 one:=by
  intro x v hv
  simp at hv
  rcases hv with rfl|rfl|rfl|rfl|rfl|rfl|rfl|rfl|rfl|rfl|rfl<;>rfl
structure EvF (F:Nat→Prop)(w:World)(c:EC)(x:Ev):Prop where
 id:c.id=x.id
 time:c.time=x.time
 kind:c.kind=x.kind
 a:c.a=x.a
 b:c.b=x.b
 name:c.name=x.name
 text:c.text=x.text
 v:CF F w c.v x.v
instance:Elt EC Ev where
 rel:=EvF
 keep:=fun h K hs=>⟨h.id,h.time,h.kind,h.a,h.b,h.name,h.text,h.v.keep K hs⟩
 mono:=fun h hs=>⟨h.id,h.time,h.kind,h.a,h.b,h.name,h.text,h.v.mono hs⟩
def XRow {α β:Type}[Cells α][Elt α β](F:Nat→Prop)(w:World)(e:TypeId)(v:Value)(l:List β):Prop:=
 ∃cs:List α,RowAt w e v cs∧cs.length=l.length∧∀(i:Nat) (c:α) (x:β),cs[i]? =some c→l[i]? =some x→Elt.rel F w c x
def XRd {α β:Type}[Cells α][Elt α β](F:Nat→Prop)(w:World)(v:Value)(l:List β):Prop:=
 ∃cs:List α,RdF F w v cs∧cs.length=l.length∧∀(i:Nat) (c:α) (x:β),cs[i]? =some c→l[i]? =some x→Elt.rel F w c x
section
variable{α β:Type} [Cells α] [Elt α β] {F G S:Nat→Prop} {w w':World} {e:TypeId} {v:Value} {l:List β}
theorem XRow.slice (h:XRow F w e v l):∃a cap,v= .slice a l.length cap:=by
 obtain⟨cs,h1,h2,h3⟩:=h
 obtain⟨a,cap,h⟩:=h1.slice
 exact⟨a,cap,by rw[←h2];exact h⟩
theorem XRow.nil (F:Nat→Prop)(w:World)(e:TypeId):XRow (β:=β) F w e (.slice none 0 0) []:=⟨[],RowAt.nil _ _,rfl,fun i c x h=>by simp at h⟩
theorem XRow.keep (h:XRow F w e v l)(K:Keeps S w w')(hs:∀g,F g→¬S g)(hv:∀g,v.ownBlock=some g→¬S g):XRow F w' e v l:=by
 obtain⟨cs,h1,h2,h3⟩:=h
 exact⟨cs,h1.keep K hv,h2,fun i c x hc hx=>Elt.keep (h3 i c x hc hx) K hs⟩
theorem XRow.mono (h:XRow F w e v l)(hs:∀g,F g→g<w.heap.size→G g):XRow G w e v l:=by
 obtain⟨cs,h1,h2,h3⟩:=h
 exact⟨cs,h1,h2,fun i c x hc hx=>Elt.mono (h3 i c x hc hx) hs⟩
theorem XRow.below (h:XRow F w e v l)(B:Below w.heap.size w w'):XRow F w' e v l:=h.keep (S:=fun _=>False) (zkb B) (fun _ _ f=>f) (fun _ _ f=>f)
theorem XRow.lt (h:XRow F w e v l){g:Nat}(hg:v.ownBlock=some g):g<w.heap.size:=by
 obtain⟨cs,h1,_⟩:=h
 exact h1.lt hg
theorem XRow.at_ {a:Option Addr}{n cap:Nat}(h:XRow F w e (.slice a n cap) l){i:Nat}{x:β}(hx:l[i]? =some x):∃g off c,a=some ⟨g,off,none⟩∧g<w.heap.size∧Elt.rel F w c x∧(∀o,w.frozen? ⟨g,o,none⟩=false)∧∀j u,(enc c)[j]? =some u→w.cell? ⟨g,off+i*sz α+j,none⟩=some u:=by
 obtain⟨cs,h1,h2,h3⟩:=h
 obtain⟨c,hc⟩:=elem_at (l:=cs) (k:=i) (by rw[h2];exact(zge hx).1)
 obtain⟨g,off,rfl,hg⟩:=h1.addr hc
 refine⟨g,off,c,rfl,hg,h3 i c x hc hx,fun o=>h1.frozen o,fun j u hu=> ?_⟩
 have hj:j<sz α:=by have:=(zge hu).1;rwa[Cells.len]at this
 have q:=h1.cell hc (j:=j) hj
 rw[show off+(i*sz α+j)=off+i*sz α+j by omega]at q
 rw[q,←hu]
end
structure MV where
 ss:Value
 ic:IC
 ps:Value
 inp:VC
 ts:Value
 as_:Value
 ls:Value
 ms:Value
def own (v:MV)(b:Nat):Nat→Option Nat
 |0=>some b
 |1=>v.ss.ownBlock
 |2=>v.ps.ownBlock
 |3=>v.ts.ownBlock
 |4=>v.as_.ownBlock
 |5=>v.ls.ownBlock
 |6=>v.ms.ownBlock
 |_=>none
def MO (v:MV)(b g:Nat):Prop:=∃i,own v b i=some g
def MZ (Z:Nat→Prop)(v:MV)(b g:Nat):Prop:=¬MO v b g∧Z g
def mCells (v:MV)(s:MS):List Value:=
 [v.ss,.slice v.ic.ca v.ic.cn v.ic.cc,.slice v.ic.ka v.ic.kn v.ic.kc,.slice v.ic.na v.ic.nn v.ic.nc,.int .i64 v.ic.pl,v.ps,.int .i64 (s.at_:Int),.int .i64 v.inp.kind,.int .i64 v.inp.n,.string v.inp.s,.slice v.inp.la v.inp.ln v.inp.lc,.int .i64 s.now,
  v.ts,.int .i64 s.timers.next,v.as_,.int .i64 s.acts.next,v.ls,.bool s.asked,.bool s.begun,.bool s.over,.string s.trap,v.ms,.int .i64 (s.taken:Int),.int .i64 (s.events:Int),.int .i64 (s.steps:Int)]
structure MT where
 m:TypeId
 v:TypeId
 t:TypeId
 l:TypeId
 c:TypeId
structure MX (T:MT)(Z:Nat→Prop)(W:World)(b:Nat)(v:MV)(p:Img)(s:MS):Prop where
 h:W.heap[b]? =some (.cells (mCells v s).toArray T.m (0,0))
 stk:XRow (MZ Z v b) W T.v v.ss s.stk
 pls:XRow (MZ Z v b) W T.v v.ps s.places
 tms:XRow (MZ Z v b) W T.t v.ts s.timers.list
 acs:XRow (MZ Z v b) W T.t v.as_ s.acts.list
 lts:XRow (MZ Z v b) W T.l v.ls s.letters
 mds:XRow (MZ Z v b) W T.c v.ms s.made
 img:IAt (MZ Z v b) W v.ic p
 inp:CF (MZ Z v b) W v.inp s.input
 sep:∀i j g,own v b i=some g→own v b j=some g→i=j
structure MK (b:Nat)(v:MV)(W:World)(v':MV)(W':World):Prop where
 keeps:Keeps (MO v b) W W'
 own:∀j,MO v' b j→MO v b j∨W.heap.size≤j
theorem MK.refl (b:Nat)(v:MV)(W:World):MK b v W v W:=⟨Keeps.refl _ _,fun _ h=>.inl h⟩
theorem MK.trans {b:Nat}{v v' v'':MV}{W W' W'':World}(h:MK b v W v' W')(k:MK b v' W' v'' W''):MK b v W v'' W'':=by
 refine⟨h.keeps.trans k.keeps (fun j hj e=>(h.own j e).resolve_right (by omega)),fun j hj=> ?_⟩
 rcases k.own j hj with h1|h1
 ·exact h.own j h1
 ·exact .inr (Nat.le_trans h.keeps.size h1)
theorem MK.ext {b:Nat}{v:MV}{W W':World}(K:Below W.heap.size W W'):MK b v W v W':=⟨(zkb (S:=fun _=>False) K).mono (fun _ _ f=>f.elim),fun _ h=>.inl h⟩
section
variable{T:MT} {Z:Nat→Prop} {W W':World} {b:Nat} {v:MV} {p:Img} {s:MS}
theorem MX.lt (M:MX T Z W b v p s){g:Nat}(h:MO v b g):g<W.heap.size:=by
 obtain⟨i,hi⟩:=h
 match i,hi with
 |0,hi=>cases hi;exact zlt M.h
 |1,hi=>exact M.stk.lt hi
 |2,hi=>exact M.pls.lt hi
 |3,hi=>exact M.tms.lt hi
 |4,hi=>exact M.acs.lt hi
 |5,hi=>exact M.lts.lt hi
 |6,hi=>exact M.mds.lt hi
 |n+7,hi=>cases hi
theorem MX.far {S:Nat→Prop}(M:MX T Z W b v p s)(K:Keeps S W W')(h1:∀j,S j→¬MO v b j)(h2:∀j,S j→¬Z j):MX T Z W' b v p s:=
 have hF:∀g,MZ Z v b g→¬S g:=fun g h s=>h2 g s h.2
 ⟨(K.block b (zlt M.h) (fun s=>h1 b s ⟨0,rfl⟩)).trans M.h,M.stk.keep K hF (fun g hg s=>h1 g s ⟨1,hg⟩),M.pls.keep K hF (fun g hg s=>h1 g s ⟨2,hg⟩),M.tms.keep K hF (fun g hg s=>h1 g s ⟨3,hg⟩),M.acs.keep K hF (fun g hg s=>h1 g s ⟨4,hg⟩),M.lts.keep K hF (fun g hg s=>h1 g s ⟨5,hg⟩),M.mds.keep K hF (fun g hg s=>h1 g s ⟨6,hg⟩),M.img.keep K hF,M.inp.keep K hF,M.sep⟩
theorem MX.ext (M:MX T Z W b v p s)(B:Below W.heap.size W W'):MX T Z W' b v p s:=by
 have K:=zkb (S:=fun _=>False) B
 exact M.far K (fun _ f=>f.elim) (fun _ f=>f.elim)
theorem MX.monoZ {Z':Nat→Prop}(M:MX T Z W b v p s)(h:∀j,Z j→j<W.heap.size→Z' j):MX T Z' W b v p s:=
 have hF:∀g,MZ Z v b g→g<W.heap.size→MZ Z' v b g:=fun g hg hl=>⟨hg.1,h g hg.2 hl⟩
 ⟨M.h,M.stk.mono hF,M.pls.mono hF,M.tms.mono hF,M.acs.mono hF,M.lts.mono hF,M.mds.mono hF,M.img.mono hF,M.inp.mono hF,M.sep⟩
theorem MX.cell (M:MX T Z W b v p s){k:Nat}{u:Value}(h:(mCells v s)[k]? =some u):W.cell? ⟨b,k,none⟩=some u:=by
 rw[zch M.h,List.getElem?_toArray]
 exact h
theorem MX.frozen (M:MX T Z W b v p s)(o:Nat):W.frozen? ⟨b,o,none⟩=false:=zfr M.h o
theorem MX.scalar (M:MX T Z W b v p s)(k:Nat)(u:Value)(s':MS)(henc:mCells v s'=(mCells v s).set k u)(e1:s'.stk=s.stk)(e2:s'.places=s.places)(e3:s'.timers.list=s.timers.list)(e4:s'.acts.list=s.acts.list)(e5:s'.letters=s.letters)(e6:s'.made=s.made)(e7:s'.input=s.input):
 MX T Z (W.setCell ⟨b,k,none⟩ u) b v p s'∧MK b v W v (W.setCell ⟨b,k,none⟩ u):=by
 have K:Keeps (fun j=>j=b) W (W.setCell ⟨b,k,none⟩ u):=Keeps.setCell (S:=fun j=>j=b) (p:=⟨b,k,none⟩) (Keeps.refl _ _) (.inl rfl) _
 have hF:∀g,MZ Z v b g→¬g=b:=fun g h e=>h.1 ⟨0,by rw[e];rfl⟩
 have hO:∀i g,own v b (i+1)=some g→¬g=b:=fun i g h e=>by
  have:=M.sep (i+1) 0 g h (by rw[e];rfl)
  omega
 refine⟨⟨?_,by rw[e1];exact M.stk.keep K hF (fun g hg=>hO 0 g hg),by rw[e2];exact M.pls.keep K hF (fun g hg=>hO 1 g hg),by rw[e3];exact M.tms.keep K hF (fun g hg=>hO 2 g hg),by rw[e4];exact M.acs.keep K hF (fun g hg=>hO 3 g hg),by rw[e5];exact M.lts.keep K hF (fun g hg=>hO 4 g hg),by rw[e6];exact M.mds.keep K hF (fun g hg=>hO 5 g hg),M.img.keep K hF,by rw[e7];exact M.inp.keep K hF,M.sep⟩,⟨K.mono (fun j _ e=>⟨0,by rw[e];rfl⟩),fun j h=>.inl h⟩⟩
 rw[henc]
 have:=M.h
 simp[World.setCell,Array.getElem?_modify,this]
theorem MO.turned {v':MV}{i0:Nat}(hsame:∀i,i≠i0→own v' b i=own v b i){g:Nat}(h:MO v' b g):MO v b g∨own v' b i0=some g:=by
 obtain⟨i,hi⟩:=h
 by_cases e:i=i0
 ·exact .inr (e▸hi)
 ·exact .inl ⟨i,by rw[←hsame i e];exact hi⟩
theorem MZ.turned {v':MV}{i0:Nat}(hsame:∀i,i≠i0→own v' b i=own v b i)(hf:∀g,own v' b i0=some g→own v b i0=some g∨W.heap.size≤g){g:Nat}(h:MZ Z v b g)(hl:g<W.heap.size):MZ Z v' b g:=by
 refine⟨fun e=> ?_,h.2⟩
 rcases MO.turned hsame e with e|e
 ·exact h.1 e
 ·rcases hf g e with e|e
  ·exact h.1 ⟨i0,e⟩
  ·omega
theorem XRow.turned {α β:Type}[Cells α][Elt α β]{v':MV}{i0 j0:Nat}{e:TypeId}{r:Value}{l:List β}(hrow:XRow (MZ Z v b) W e r l)(hr:r.ownBlock=own v b j0)(hj:j0≠i0)(h0:j0≠0)(sep:∀i j g,own v b i=some g→own v b j=some g→i=j)
 (hsame:∀i,i≠i0→own v' b i=own v b i)(hf:∀g,own v' b i0=some g→own v b i0=some g∨W.heap.size≤g)(K:Keeps (fun j=>j=b∨own v b i0=some j) W W'):XRow (MZ Z v' b) W' e r l:=
 ((hrow.mono (G:=fun g=>MZ Z v b g∧MZ Z v' b g) (fun g h hl=>⟨h,MZ.turned hsame hf h hl⟩)).keep K (fun g h e=>e.elim (fun e=>h.1.1 ⟨0,by rw[e];rfl⟩) (fun e=>h.1.1 ⟨i0,e⟩)) (fun g hg e=>e.elim (fun e=>h0 (sep j0 0 g (hr▸hg) (by rw[e];rfl))) (fun e=>hj (sep j0 i0 g (hr▸hg) e)))).mono (fun g h _=>h.2)
theorem sep_turned {v':MV}{i0:Nat}(hlt:∀g,MO v b g→g<W.heap.size)(sep:∀i j g,own v b i=some g→own v b j=some g→i=j)(hsame:∀i,i≠i0→own v' b i=own v b i)(hf:∀g,own v' b i0=some g→own v b i0=some g∨W.heap.size≤g):∀i j g,own v' b i=some g→own v' b j=some g→i=j:=by
 have one:∀i g,i≠i0→own v' b i=some g→own v' b i0=some g→False:=fun i g hi h1 h2=>by
  rw[hsame i hi]at h1
  rcases hf g h2 with h|h
  ·exact hi (sep i i0 g h1 h)
  ·have:=hlt g ⟨i,h1⟩;omega
 intro i j g hi hj
 by_cases ei:i=i0
 ·by_cases ej:j=i0
  ·rw[ei,ej]
  ·rw[ei]at hi;exact(one j g ej hj hi).elim
 ·by_cases ej:j=i0
  ·rw[ej]at hj;exact(one i g ei hi hj).elim
  ·rw[hsame i ei]at hi;rw[hsame j ej]at hj;exact sep i j g hi hj
theorem MX.setStk (M:MX T Z W b v p s){w1:World}{v1:Value}{l1:List Val}(s':MS)(hr:XRow (fun g=>MZ Z v b g∧¬v1.ownBlock=some g) w1 T.v v1 l1)(K:Keeps (fun j=>v.ss.ownBlock=some j) W w1)(hf:∀g,v1.ownBlock=some g→v.ss.ownBlock=some g∨W.heap.size≤g)(hs':s'={s with stk:=l1}):
 MX T Z (w1.setCell ⟨b,0,none⟩ v1) b {v with ss:=v1} p s'∧MK b v W {v with ss:=v1} (w1.setCell ⟨b,0,none⟩ v1):=by
 subst hs'
 have hbn:v.ss.ownBlock≠some b:=fun e=>absurd (M.sep 1 0 b e rfl) (by decide)
 have hb:w1.heap[b]? =some (.cells (mCells v s).toArray T.m (0,0)):=(K.block b (zlt M.h) hbn).trans M.h
 have KB:Keeps (fun j=>j=b) w1 (w1.setCell ⟨b,0,none⟩ v1):=Keeps.setCell (S:=fun j=>j=b) (p:=⟨b,0,none⟩) (Keeps.refl _ _) (.inl rfl) _
 have K2:Keeps (fun j=>j=b∨own v b 1=some j) W (w1.setCell ⟨b,0,none⟩ v1):=(K.mono (fun _ _ e=>.inr e)).trans KB (fun _ _ e=>.inl e)
 have hsame:∀i,i≠1→own {v with ss:=v1} b i=own v b i:=fun i hi=>by
  match i with
  |0=>first|rfl|exact absurd rfl hi
  |1=>first|rfl|exact absurd rfl hi
  |2=>first|rfl|exact absurd rfl hi
  |3=>first|rfl|exact absurd rfl hi
  |4=>first|rfl|exact absurd rfl hi
  |5=>first|rfl|exact absurd rfl hi
  |6=>first|rfl|exact absurd rfl hi
  |_+7=>rfl
 have hf':∀g,own {v with ss:=v1} b 1=some g→own v b 1=some g∨W.heap.size≤g:=hf
 have hn:∀g,v1.ownBlock=some g→g≠b:=fun g hg e=>by
  rcases hf g hg with h|h
  ·exact hbn (e▸h)
  ·have:=zlt M.h;omega
 have hlt:∀g,MO v b g→g<W.heap.size:=fun g=>M.lt
 have hrow:XRow (MZ Z {v with ss:=v1} b) (w1.setCell ⟨b,0,none⟩ v1) T.v v1 l1:=by
  refine(hr.keep KB (fun g h e=>h.1.1 ⟨0,by rw[e];rfl⟩) (fun g hg=>hn g hg)).mono (fun g h _=>⟨fun e=> ?_,h.1.2⟩)
  exact(MO.turned hsame e).elim h.1.1 h.2
 refine⟨⟨by simp[World.setCell,Array.getElem?_modify,hb];rfl,?_,?_,?_,?_,?_,?_,?_,?_,sep_turned hlt M.sep hsame hf'⟩,K2.mono (fun j _ e=>e.elim (fun e=>⟨0,by rw[e];rfl⟩) (fun e=>⟨1,e⟩)),fun j h=>(MO.turned hsame h).elim .inl (fun e=>(hf j e).elim (fun e=>.inl ⟨1,e⟩) .inr)⟩
 ·first|exact hrow|exact M.stk.turned (j0:=1) rfl (by decide) (by decide) M.sep hsame hf' K2
 ·first|exact hrow|exact M.pls.turned (j0:=2) rfl (by decide) (by decide) M.sep hsame hf' K2
 ·first|exact hrow|exact M.tms.turned (j0:=3) rfl (by decide) (by decide) M.sep hsame hf' K2
 ·first|exact hrow|exact M.acs.turned (j0:=4) rfl (by decide) (by decide) M.sep hsame hf' K2
 ·first|exact hrow|exact M.lts.turned (j0:=5) rfl (by decide) (by decide) M.sep hsame hf' K2
 ·first|exact hrow|exact M.mds.turned (j0:=6) rfl (by decide) (by decide) M.sep hsame hf' K2
 ·exact((M.img.mono (G:=fun g=>MZ Z v b g∧MZ Z {v with ss:=v1} b g) (fun g h hl=>⟨h,MZ.turned hsame hf' h hl⟩)).keep K2 (fun g h e=>e.elim (fun e=>h.1.1 ⟨0,by rw[e];rfl⟩) (fun e=>h.1.1 ⟨1,e⟩))).mono (fun g h _=>h.2)
 ·exact((M.inp.mono (G:=fun g=>MZ Z v b g∧MZ Z {v with ss:=v1} b g) (fun g h hl=>⟨h,MZ.turned hsame hf' h hl⟩)).keep K2 (fun g h e=>e.elim (fun e=>h.1.1 ⟨0,by rw[e];rfl⟩) (fun e=>h.1.1 ⟨1,e⟩))).mono (fun g h _=>h.2)
theorem MX.setPls (M:MX T Z W b v p s){w1:World}{v1:Value}{l1:List Val}(s':MS)(hr:XRow (fun g=>MZ Z v b g∧¬v1.ownBlock=some g) w1 T.v v1 l1)(K:Keeps (fun j=>v.ps.ownBlock=some j) W w1)(hf:∀g,v1.ownBlock=some g→v.ps.ownBlock=some g∨W.heap.size≤g)(hs':s'={s with places:=l1}):
 MX T Z (w1.setCell ⟨b,5,none⟩ v1) b {v with ps:=v1} p s'∧MK b v W {v with ps:=v1} (w1.setCell ⟨b,5,none⟩ v1):=by
 subst hs'
 have hbn:v.ps.ownBlock≠some b:=fun e=>absurd (M.sep 2 0 b e rfl) (by decide)
 have hb:w1.heap[b]? =some (.cells (mCells v s).toArray T.m (0,0)):=(K.block b (zlt M.h) hbn).trans M.h
 have KB:Keeps (fun j=>j=b) w1 (w1.setCell ⟨b,5,none⟩ v1):=Keeps.setCell (S:=fun j=>j=b) (p:=⟨b,5,none⟩) (Keeps.refl _ _) (.inl rfl) _
 have K2:Keeps (fun j=>j=b∨own v b 2=some j) W (w1.setCell ⟨b,5,none⟩ v1):=(K.mono (fun _ _ e=>.inr e)).trans KB (fun _ _ e=>.inl e)
 have hsame:∀i,i≠2→own {v with ps:=v1} b i=own v b i:=fun i hi=>by
  match i with
  |0=>first|rfl|exact absurd rfl hi
  |1=>first|rfl|exact absurd rfl hi
  |2=>first|rfl|exact absurd rfl hi
  |3=>first|rfl|exact absurd rfl hi
  |4=>first|rfl|exact absurd rfl hi
  |5=>first|rfl|exact absurd rfl hi
  |6=>first|rfl|exact absurd rfl hi
  |_+7=>rfl
 have hf':∀g,own {v with ps:=v1} b 2=some g→own v b 2=some g∨W.heap.size≤g:=hf
 have hn:∀g,v1.ownBlock=some g→g≠b:=fun g hg e=>by
  rcases hf g hg with h|h
  ·exact hbn (e▸h)
  ·have:=zlt M.h;omega
 have hlt:∀g,MO v b g→g<W.heap.size:=fun g=>M.lt
 have hrow:XRow (MZ Z {v with ps:=v1} b) (w1.setCell ⟨b,5,none⟩ v1) T.v v1 l1:=by
  refine(hr.keep KB (fun g h e=>h.1.1 ⟨0,by rw[e];rfl⟩) (fun g hg=>hn g hg)).mono (fun g h _=>⟨fun e=> ?_,h.1.2⟩)
  exact(MO.turned hsame e).elim h.1.1 h.2
 refine⟨⟨by simp[World.setCell,Array.getElem?_modify,hb];rfl,?_,?_,?_,?_,?_,?_,?_,?_,sep_turned hlt M.sep hsame hf'⟩,K2.mono (fun j _ e=>e.elim (fun e=>⟨0,by rw[e];rfl⟩) (fun e=>⟨2,e⟩)),fun j h=>(MO.turned hsame h).elim .inl (fun e=>(hf j e).elim (fun e=>.inl ⟨2,e⟩) .inr)⟩
 ·first|exact hrow|exact M.stk.turned (j0:=1) rfl (by decide) (by decide) M.sep hsame hf' K2
 ·first|exact hrow|exact M.pls.turned (j0:=2) rfl (by decide) (by decide) M.sep hsame hf' K2
 ·first|exact hrow|exact M.tms.turned (j0:=3) rfl (by decide) (by decide) M.sep hsame hf' K2
 ·first|exact hrow|exact M.acs.turned (j0:=4) rfl (by decide) (by decide) M.sep hsame hf' K2
 ·first|exact hrow|exact M.lts.turned (j0:=5) rfl (by decide) (by decide) M.sep hsame hf' K2
 ·first|exact hrow|exact M.mds.turned (j0:=6) rfl (by decide) (by decide) M.sep hsame hf' K2
 ·exact((M.img.mono (G:=fun g=>MZ Z v b g∧MZ Z {v with ps:=v1} b g) (fun g h hl=>⟨h,MZ.turned hsame hf' h hl⟩)).keep K2 (fun g h e=>e.elim (fun e=>h.1.1 ⟨0,by rw[e];rfl⟩) (fun e=>h.1.1 ⟨2,e⟩))).mono (fun g h _=>h.2)
 ·exact((M.inp.mono (G:=fun g=>MZ Z v b g∧MZ Z {v with ps:=v1} b g) (fun g h hl=>⟨h,MZ.turned hsame hf' h hl⟩)).keep K2 (fun g h e=>e.elim (fun e=>h.1.1 ⟨0,by rw[e];rfl⟩) (fun e=>h.1.1 ⟨2,e⟩))).mono (fun g h _=>h.2)
theorem MX.setTms (M:MX T Z W b v p s){w1:World}{v1:Value}{l1:List Th}(s':MS)(hr:XRow (fun g=>MZ Z v b g∧¬v1.ownBlock=some g) w1 T.t v1 l1)(K:Keeps (fun j=>v.ts.ownBlock=some j) W w1)(hf:∀g,v1.ownBlock=some g→v.ts.ownBlock=some g∨W.heap.size≤g)(hs':s'={s with timers:=⟨l1,s.timers.next⟩}):
 MX T Z (w1.setCell ⟨b,12,none⟩ v1) b {v with ts:=v1} p s'∧MK b v W {v with ts:=v1} (w1.setCell ⟨b,12,none⟩ v1):=by
 subst hs'
 have hbn:v.ts.ownBlock≠some b:=fun e=>absurd (M.sep 3 0 b e rfl) (by decide)
 have hb:w1.heap[b]? =some (.cells (mCells v s).toArray T.m (0,0)):=(K.block b (zlt M.h) hbn).trans M.h
 have KB:Keeps (fun j=>j=b) w1 (w1.setCell ⟨b,12,none⟩ v1):=Keeps.setCell (S:=fun j=>j=b) (p:=⟨b,12,none⟩) (Keeps.refl _ _) (.inl rfl) _
 have K2:Keeps (fun j=>j=b∨own v b 3=some j) W (w1.setCell ⟨b,12,none⟩ v1):=(K.mono (fun _ _ e=>.inr e)).trans KB (fun _ _ e=>.inl e)
 have hsame:∀i,i≠3→own {v with ts:=v1} b i=own v b i:=fun i hi=>by
  match i with
  |0=>first|rfl|exact absurd rfl hi
  |1=>first|rfl|exact absurd rfl hi
  |2=>first|rfl|exact absurd rfl hi
  |3=>first|rfl|exact absurd rfl hi
  |4=>first|rfl|exact absurd rfl hi
  |5=>first|rfl|exact absurd rfl hi
  |6=>first|rfl|exact absurd rfl hi
  |_+7=>rfl
 have hf':∀g,own {v with ts:=v1} b 3=some g→own v b 3=some g∨W.heap.size≤g:=hf
 have hn:∀g,v1.ownBlock=some g→g≠b:=fun g hg e=>by
  rcases hf g hg with h|h
  ·exact hbn (e▸h)
  ·have:=zlt M.h;omega
 have hlt:∀g,MO v b g→g<W.heap.size:=fun g=>M.lt
 have hrow:XRow (MZ Z {v with ts:=v1} b) (w1.setCell ⟨b,12,none⟩ v1) T.t v1 l1:=by
  refine(hr.keep KB (fun g h e=>h.1.1 ⟨0,by rw[e];rfl⟩) (fun g hg=>hn g hg)).mono (fun g h _=>⟨fun e=> ?_,h.1.2⟩)
  exact(MO.turned hsame e).elim h.1.1 h.2
 refine⟨⟨by simp[World.setCell,Array.getElem?_modify,hb];rfl,?_,?_,?_,?_,?_,?_,?_,?_,sep_turned hlt M.sep hsame hf'⟩,K2.mono (fun j _ e=>e.elim (fun e=>⟨0,by rw[e];rfl⟩) (fun e=>⟨3,e⟩)),fun j h=>(MO.turned hsame h).elim .inl (fun e=>(hf j e).elim (fun e=>.inl ⟨3,e⟩) .inr)⟩
 ·first|exact hrow|exact M.stk.turned (j0:=1) rfl (by decide) (by decide) M.sep hsame hf' K2
 ·first|exact hrow|exact M.pls.turned (j0:=2) rfl (by decide) (by decide) M.sep hsame hf' K2
 ·first|exact hrow|exact M.tms.turned (j0:=3) rfl (by decide) (by decide) M.sep hsame hf' K2
 ·first|exact hrow|exact M.acs.turned (j0:=4) rfl (by decide) (by decide) M.sep hsame hf' K2
 ·first|exact hrow|exact M.lts.turned (j0:=5) rfl (by decide) (by decide) M.sep hsame hf' K2
 ·first|exact hrow|exact M.mds.turned (j0:=6) rfl (by decide) (by decide) M.sep hsame hf' K2
 ·exact((M.img.mono (G:=fun g=>MZ Z v b g∧MZ Z {v with ts:=v1} b g) (fun g h hl=>⟨h,MZ.turned hsame hf' h hl⟩)).keep K2 (fun g h e=>e.elim (fun e=>h.1.1 ⟨0,by rw[e];rfl⟩) (fun e=>h.1.1 ⟨3,e⟩))).mono (fun g h _=>h.2)
 ·exact((M.inp.mono (G:=fun g=>MZ Z v b g∧MZ Z {v with ts:=v1} b g) (fun g h hl=>⟨h,MZ.turned hsame hf' h hl⟩)).keep K2 (fun g h e=>e.elim (fun e=>h.1.1 ⟨0,by rw[e];rfl⟩) (fun e=>h.1.1 ⟨3,e⟩))).mono (fun g h _=>h.2)
theorem MX.setAcs (M:MX T Z W b v p s){w1:World}{v1:Value}{l1:List Th}(s':MS)(hr:XRow (fun g=>MZ Z v b g∧¬v1.ownBlock=some g) w1 T.t v1 l1)(K:Keeps (fun j=>v.as_.ownBlock=some j) W w1)(hf:∀g,v1.ownBlock=some g→v.as_.ownBlock=some g∨W.heap.size≤g)(hs':s'={s with acts:=⟨l1,s.acts.next⟩}):
 MX T Z (w1.setCell ⟨b,14,none⟩ v1) b {v with as_:=v1} p s'∧MK b v W {v with as_:=v1} (w1.setCell ⟨b,14,none⟩ v1):=by
 subst hs'
 have hbn:v.as_.ownBlock≠some b:=fun e=>absurd (M.sep 4 0 b e rfl) (by decide)
 have hb:w1.heap[b]? =some (.cells (mCells v s).toArray T.m (0,0)):=(K.block b (zlt M.h) hbn).trans M.h
 have KB:Keeps (fun j=>j=b) w1 (w1.setCell ⟨b,14,none⟩ v1):=Keeps.setCell (S:=fun j=>j=b) (p:=⟨b,14,none⟩) (Keeps.refl _ _) (.inl rfl) _
 have K2:Keeps (fun j=>j=b∨own v b 4=some j) W (w1.setCell ⟨b,14,none⟩ v1):=(K.mono (fun _ _ e=>.inr e)).trans KB (fun _ _ e=>.inl e)
 have hsame:∀i,i≠4→own {v with as_:=v1} b i=own v b i:=fun i hi=>by
  match i with
  |0=>first|rfl|exact absurd rfl hi
  |1=>first|rfl|exact absurd rfl hi
  |2=>first|rfl|exact absurd rfl hi
  |3=>first|rfl|exact absurd rfl hi
  |4=>first|rfl|exact absurd rfl hi
  |5=>first|rfl|exact absurd rfl hi
  |6=>first|rfl|exact absurd rfl hi
  |_+7=>rfl
 have hf':∀g,own {v with as_:=v1} b 4=some g→own v b 4=some g∨W.heap.size≤g:=hf
 have hn:∀g,v1.ownBlock=some g→g≠b:=fun g hg e=>by
  rcases hf g hg with h|h
  ·exact hbn (e▸h)
  ·have:=zlt M.h;omega
 have hlt:∀g,MO v b g→g<W.heap.size:=fun g=>M.lt
 have hrow:XRow (MZ Z {v with as_:=v1} b) (w1.setCell ⟨b,14,none⟩ v1) T.t v1 l1:=by
  refine(hr.keep KB (fun g h e=>h.1.1 ⟨0,by rw[e];rfl⟩) (fun g hg=>hn g hg)).mono (fun g h _=>⟨fun e=> ?_,h.1.2⟩)
  exact(MO.turned hsame e).elim h.1.1 h.2
 refine⟨⟨by simp[World.setCell,Array.getElem?_modify,hb];rfl,?_,?_,?_,?_,?_,?_,?_,?_,sep_turned hlt M.sep hsame hf'⟩,K2.mono (fun j _ e=>e.elim (fun e=>⟨0,by rw[e];rfl⟩) (fun e=>⟨4,e⟩)),fun j h=>(MO.turned hsame h).elim .inl (fun e=>(hf j e).elim (fun e=>.inl ⟨4,e⟩) .inr)⟩
 ·first|exact hrow|exact M.stk.turned (j0:=1) rfl (by decide) (by decide) M.sep hsame hf' K2
 ·first|exact hrow|exact M.pls.turned (j0:=2) rfl (by decide) (by decide) M.sep hsame hf' K2
 ·first|exact hrow|exact M.tms.turned (j0:=3) rfl (by decide) (by decide) M.sep hsame hf' K2
 ·first|exact hrow|exact M.acs.turned (j0:=4) rfl (by decide) (by decide) M.sep hsame hf' K2
 ·first|exact hrow|exact M.lts.turned (j0:=5) rfl (by decide) (by decide) M.sep hsame hf' K2
 ·first|exact hrow|exact M.mds.turned (j0:=6) rfl (by decide) (by decide) M.sep hsame hf' K2
 ·exact((M.img.mono (G:=fun g=>MZ Z v b g∧MZ Z {v with as_:=v1} b g) (fun g h hl=>⟨h,MZ.turned hsame hf' h hl⟩)).keep K2 (fun g h e=>e.elim (fun e=>h.1.1 ⟨0,by rw[e];rfl⟩) (fun e=>h.1.1 ⟨4,e⟩))).mono (fun g h _=>h.2)
 ·exact((M.inp.mono (G:=fun g=>MZ Z v b g∧MZ Z {v with as_:=v1} b g) (fun g h hl=>⟨h,MZ.turned hsame hf' h hl⟩)).keep K2 (fun g h e=>e.elim (fun e=>h.1.1 ⟨0,by rw[e];rfl⟩) (fun e=>h.1.1 ⟨4,e⟩))).mono (fun g h _=>h.2)
theorem MX.setLts (M:MX T Z W b v p s){w1:World}{v1:Value}{l1:List Lt}(s':MS)(hr:XRow (fun g=>MZ Z v b g∧¬v1.ownBlock=some g) w1 T.l v1 l1)(K:Keeps (fun j=>v.ls.ownBlock=some j) W w1)(hf:∀g,v1.ownBlock=some g→v.ls.ownBlock=some g∨W.heap.size≤g)(hs':s'={s with letters:=l1}):
 MX T Z (w1.setCell ⟨b,16,none⟩ v1) b {v with ls:=v1} p s'∧MK b v W {v with ls:=v1} (w1.setCell ⟨b,16,none⟩ v1):=by
 subst hs'
 have hbn:v.ls.ownBlock≠some b:=fun e=>absurd (M.sep 5 0 b e rfl) (by decide)
 have hb:w1.heap[b]? =some (.cells (mCells v s).toArray T.m (0,0)):=(K.block b (zlt M.h) hbn).trans M.h
 have KB:Keeps (fun j=>j=b) w1 (w1.setCell ⟨b,16,none⟩ v1):=Keeps.setCell (S:=fun j=>j=b) (p:=⟨b,16,none⟩) (Keeps.refl _ _) (.inl rfl) _
 have K2:Keeps (fun j=>j=b∨own v b 5=some j) W (w1.setCell ⟨b,16,none⟩ v1):=(K.mono (fun _ _ e=>.inr e)).trans KB (fun _ _ e=>.inl e)
 have hsame:∀i,i≠5→own {v with ls:=v1} b i=own v b i:=fun i hi=>by
  match i with
  |0=>first|rfl|exact absurd rfl hi
  |1=>first|rfl|exact absurd rfl hi
  |2=>first|rfl|exact absurd rfl hi
  |3=>first|rfl|exact absurd rfl hi
  |4=>first|rfl|exact absurd rfl hi
  |5=>first|rfl|exact absurd rfl hi
  |6=>first|rfl|exact absurd rfl hi
  |_+7=>rfl
 have hf':∀g,own {v with ls:=v1} b 5=some g→own v b 5=some g∨W.heap.size≤g:=hf
 have hn:∀g,v1.ownBlock=some g→g≠b:=fun g hg e=>by
  rcases hf g hg with h|h
  ·exact hbn (e▸h)
  ·have:=zlt M.h;omega
 have hlt:∀g,MO v b g→g<W.heap.size:=fun g=>M.lt
 have hrow:XRow (MZ Z {v with ls:=v1} b) (w1.setCell ⟨b,16,none⟩ v1) T.l v1 l1:=by
  refine(hr.keep KB (fun g h e=>h.1.1 ⟨0,by rw[e];rfl⟩) (fun g hg=>hn g hg)).mono (fun g h _=>⟨fun e=> ?_,h.1.2⟩)
  exact(MO.turned hsame e).elim h.1.1 h.2
 refine⟨⟨by simp[World.setCell,Array.getElem?_modify,hb];rfl,?_,?_,?_,?_,?_,?_,?_,?_,sep_turned hlt M.sep hsame hf'⟩,K2.mono (fun j _ e=>e.elim (fun e=>⟨0,by rw[e];rfl⟩) (fun e=>⟨5,e⟩)),fun j h=>(MO.turned hsame h).elim .inl (fun e=>(hf j e).elim (fun e=>.inl ⟨5,e⟩) .inr)⟩
 ·first|exact hrow|exact M.stk.turned (j0:=1) rfl (by decide) (by decide) M.sep hsame hf' K2
 ·first|exact hrow|exact M.pls.turned (j0:=2) rfl (by decide) (by decide) M.sep hsame hf' K2
 ·first|exact hrow|exact M.tms.turned (j0:=3) rfl (by decide) (by decide) M.sep hsame hf' K2
 ·first|exact hrow|exact M.acs.turned (j0:=4) rfl (by decide) (by decide) M.sep hsame hf' K2
 ·first|exact hrow|exact M.lts.turned (j0:=5) rfl (by decide) (by decide) M.sep hsame hf' K2
 ·first|exact hrow|exact M.mds.turned (j0:=6) rfl (by decide) (by decide) M.sep hsame hf' K2
 ·exact((M.img.mono (G:=fun g=>MZ Z v b g∧MZ Z {v with ls:=v1} b g) (fun g h hl=>⟨h,MZ.turned hsame hf' h hl⟩)).keep K2 (fun g h e=>e.elim (fun e=>h.1.1 ⟨0,by rw[e];rfl⟩) (fun e=>h.1.1 ⟨5,e⟩))).mono (fun g h _=>h.2)
 ·exact((M.inp.mono (G:=fun g=>MZ Z v b g∧MZ Z {v with ls:=v1} b g) (fun g h hl=>⟨h,MZ.turned hsame hf' h hl⟩)).keep K2 (fun g h e=>e.elim (fun e=>h.1.1 ⟨0,by rw[e];rfl⟩) (fun e=>h.1.1 ⟨5,e⟩))).mono (fun g h _=>h.2)
theorem MX.setMds (M:MX T Z W b v p s){w1:World}{v1:Value}{l1:List Cm}(s':MS)(hr:XRow (fun g=>MZ Z v b g∧¬v1.ownBlock=some g) w1 T.c v1 l1)(K:Keeps (fun j=>v.ms.ownBlock=some j) W w1)(hf:∀g,v1.ownBlock=some g→v.ms.ownBlock=some g∨W.heap.size≤g)(hs':s'={s with made:=l1}):
 MX T Z (w1.setCell ⟨b,21,none⟩ v1) b {v with ms:=v1} p s'∧MK b v W {v with ms:=v1} (w1.setCell ⟨b,21,none⟩ v1):=by
 subst hs'
 have hbn:v.ms.ownBlock≠some b:=fun e=>absurd (M.sep 6 0 b e rfl) (by decide)
 have hb:w1.heap[b]? =some (.cells (mCells v s).toArray T.m (0,0)):=(K.block b (zlt M.h) hbn).trans M.h
 have KB:Keeps (fun j=>j=b) w1 (w1.setCell ⟨b,21,none⟩ v1):=Keeps.setCell (S:=fun j=>j=b) (p:=⟨b,21,none⟩) (Keeps.refl _ _) (.inl rfl) _
 have K2:Keeps (fun j=>j=b∨own v b 6=some j) W (w1.setCell ⟨b,21,none⟩ v1):=(K.mono (fun _ _ e=>.inr e)).trans KB (fun _ _ e=>.inl e)
 have hsame:∀i,i≠6→own {v with ms:=v1} b i=own v b i:=fun i hi=>by
  match i with
  |0=>first|rfl|exact absurd rfl hi
  |1=>first|rfl|exact absurd rfl hi
  |2=>first|rfl|exact absurd rfl hi
  |3=>first|rfl|exact absurd rfl hi
  |4=>first|rfl|exact absurd rfl hi
  |5=>first|rfl|exact absurd rfl hi
  |6=>first|rfl|exact absurd rfl hi
  |_+7=>rfl
 have hf':∀g,own {v with ms:=v1} b 6=some g→own v b 6=some g∨W.heap.size≤g:=hf
 have hn:∀g,v1.ownBlock=some g→g≠b:=fun g hg e=>by
  rcases hf g hg with h|h
  ·exact hbn (e▸h)
  ·have:=zlt M.h;omega
 have hlt:∀g,MO v b g→g<W.heap.size:=fun g=>M.lt
 have hrow:XRow (MZ Z {v with ms:=v1} b) (w1.setCell ⟨b,21,none⟩ v1) T.c v1 l1:=by
  refine(hr.keep KB (fun g h e=>h.1.1 ⟨0,by rw[e];rfl⟩) (fun g hg=>hn g hg)).mono (fun g h _=>⟨fun e=> ?_,h.1.2⟩)
  exact(MO.turned hsame e).elim h.1.1 h.2
 refine⟨⟨by simp[World.setCell,Array.getElem?_modify,hb];rfl,?_,?_,?_,?_,?_,?_,?_,?_,sep_turned hlt M.sep hsame hf'⟩,K2.mono (fun j _ e=>e.elim (fun e=>⟨0,by rw[e];rfl⟩) (fun e=>⟨6,e⟩)),fun j h=>(MO.turned hsame h).elim .inl (fun e=>(hf j e).elim (fun e=>.inl ⟨6,e⟩) .inr)⟩
 ·first|exact hrow|exact M.stk.turned (j0:=1) rfl (by decide) (by decide) M.sep hsame hf' K2
 ·first|exact hrow|exact M.pls.turned (j0:=2) rfl (by decide) (by decide) M.sep hsame hf' K2
 ·first|exact hrow|exact M.tms.turned (j0:=3) rfl (by decide) (by decide) M.sep hsame hf' K2
 ·first|exact hrow|exact M.acs.turned (j0:=4) rfl (by decide) (by decide) M.sep hsame hf' K2
 ·first|exact hrow|exact M.lts.turned (j0:=5) rfl (by decide) (by decide) M.sep hsame hf' K2
 ·first|exact hrow|exact M.mds.turned (j0:=6) rfl (by decide) (by decide) M.sep hsame hf' K2
 ·exact((M.img.mono (G:=fun g=>MZ Z v b g∧MZ Z {v with ms:=v1} b g) (fun g h hl=>⟨h,MZ.turned hsame hf' h hl⟩)).keep K2 (fun g h e=>e.elim (fun e=>h.1.1 ⟨0,by rw[e];rfl⟩) (fun e=>h.1.1 ⟨6,e⟩))).mono (fun g h _=>h.2)
 ·exact((M.inp.mono (G:=fun g=>MZ Z v b g∧MZ Z {v with ms:=v1} b g) (fun g h hl=>⟨h,MZ.turned hsame hf' h hl⟩)).keep K2 (fun g h e=>e.elim (fun e=>h.1.1 ⟨0,by rw[e];rfl⟩) (fun e=>h.1.1 ⟨6,e⟩))).mono (fun g h _=>h.2)
end
end Go.Va
