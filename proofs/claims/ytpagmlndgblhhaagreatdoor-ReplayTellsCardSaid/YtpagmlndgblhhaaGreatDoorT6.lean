/- Parts of the proof: what the functions and the plain laws give that later parts lean on. Conditions: none beyond those that each theorem names. -/
import Derived.Deep.Slices
import Derived.Deep.Fields
import Derived.ChangeSame
import Derived.OpenShut
import Derived.Test.YtpagmlndgblhhaaGreatDoorT5
set_option maxRecDepth 100000
set_option maxHeartbeats 8000000
namespace Go.Va
open Go.Own Go.RowKit Go.Own.MapTy
def yab:Val->Val
 | .mk k n s l=>.mk k (bif k==1 then n else 0) (bif k==2 then s else⟨#[]⟩) (bif k==3 then cloneL l else[])
where cloneL:List Val->List Val
 |[]=>[]
 |x::r=>yab x::cloneL r
theorem ybP (x:Val):yab x= .mk x.kind (bif x.kind==1 then x.num else 0) (bif x.kind==2 then x.txt else⟨#[]⟩) (bif x.kind==3 then yab.cloneL x.list else[]):=by
 cases x;rw[yab];rfl
theorem ycB (l:List Val):yab.cloneL l=l.map yab:=by
 induction l with
 |nil=>rw[yab.cloneL];rfl
 |cons x r ih=>rw[yab.cloneL,ih];rfl
end Go.Va
namespace Go.Proofs.YtpagmlndgblhhaaGreatDoor
open Go.RowKit Go.Own Go.Own.MapTy Go.Va Go.Sort
open Go.Own.Cells (sz enc)
def ygF (w:World)(x:Val)(e:Ending)(w':World):Prop:=∃c:VC,e= .returned (.agg #[c.kind,c.n,c.s,.slice c.la c.ln c.lc])/\Hid (CF (fun g=>w<=g) w' c (yab x)/\Below w w w')
theorem yk1 (x:Val)
  (ck cn:Int)(cs:ByteArray)(la:Option Addr)(ln lc:Nat)(F:Nat->Prop)(w:World)(C:CF F w ⟨ck,cn,cs,la,ln,lc⟩ x)(hz:szV x<=1073741824)
  (h3:(x.kind==3)=false):
  Calls Tryz.prog 58 #[.agg #[ck,cn,cs,.slice la ln lc]] w (ygF w x)
  :=by
 have B:ck=x.kind:=C.kind;have E:cn=x.num:=C.n;have D:cs=x.txt:=C.s;have A:=ybP x;rw[<-B,<-E,<-D]at A;rw[<-B]at h3;have H:=hz;clear C D E B;cases h1:(ck==1)with
 |true=>
  obtain rfl:ck=1:=by simpa using h1
  have G:=zhd A;clear A h1 h3;go_in;go_wp2_with fail;refine zng (v:=.agg #[.int .i64 1,cn,.string ⟨#[]⟩,.slice none 0 0]) (by simp only[results,Tryz.results58];go_simp) rfl ⟨⟨1,cn,⟨#[]⟩,none,0,0⟩,rfl,zhd ⟨?_,?_⟩⟩
  .rw[G.o];exact⟨rfl,rfl,rfl,VF.nil _ _⟩
  .repeat(first|exact znv _ _|refine Below.setCell ?_ (by first|(simp;done)|(simp;omega)) _|refine Below.alloc ?_ (by first|(simp;done)|(simp;omega)) _)
 |false=>
  cases h2:(ck==2)with
  |true=>
   obtain rfl:ck=2:=by simpa using h2
   have G:=zhd A;clear A h1 h2 h3;go_in;go_wp2_with fail;refine zng (v:=.agg #[.int .i64 2,.int .i64 0,cs,.slice none 0 0]) (by simp only[results,Tryz.results58];go_simp) rfl ⟨⟨2,0,cs,none,0,0⟩,rfl,zhd ⟨?_,?_⟩⟩
   .rw[G.o];exact⟨rfl,rfl,rfl,VF.nil _ _⟩
   .repeat(first|exact znv _ _|refine Below.setCell ?_ (by first|(simp;done)|(simp;omega)) _|refine Below.alloc ?_ (by first|(simp;done)|(simp;omega)) _)
  |false=>
   rw[h1,h2,h3]at A;have G:=zhd A;clear A;go_in;go_wp2_with fail;refine zng (v:=.agg #[ck,.int .i64 0,.string ⟨#[]⟩,.slice none 0 0]) (by simp only[results,Tryz.results58];go_simp) rfl ⟨⟨ck,0,⟨#[]⟩,none,0,0⟩,rfl,zhd ⟨?_,?_⟩⟩
   .rw[G.o];exact⟨rfl,rfl,rfl,VF.nil _ _⟩
   .repeat(first|exact znv _ _|refine Below.setCell ?_ (by first|(simp;done)|(simp;omega)) _|refine Below.alloc ?_ (by first|(simp;done)|(simp;omega)) _)
theorem ygz {w:World}{k:Nat}{o:Obj}(h:k=w):(w.alloc o).heap[k]? =some o:=by rw[h];exact znb _ _
def CIH (n:Nat):Prop:=∀(x:Val),x.parts<=n->∀(ck cn:Int) (cs:ByteArray) (la:Option Addr) (ln lc:Nat) (F:Nat->Prop) (w:World),CF F w ⟨ck,cn,cs,la,ln,lc⟩ x->szV x<=1073741824->
 Calls Tryz.prog 58 #[.agg #[ck,cn,cs,.slice la ln lc]] w (ygF w x)
theorem yk0 {l:List Val}{k:Nat}{y:Val}(h:l[k]? =some y):yab.cloneL (l.take (k+1))=yab.cloneL (l.take k)++[yab y]:=by
 rw[ycB,ycB,List.take_add_one,h];simp
structure ClL (w wr:World)(v:Value)(l:List Val):Prop where
 b3:wr.heap[w.heap.size+2]? =some (.cells #[.int .i64 3,.int .i64 0,.string ⟨#[]⟩,v] 38 (0,0))
 b2:wr.heap[w.heap.size+1]? =some (.cells #[.int .i64 0,.int .i64 0,.string ⟨#[]⟩,.slice none 0 0] 38 (0,0))
 row:VRow (fun g=>w.heap.size+2<g/\v.ownBlock≠some g) wr 38 v (yab.cloneL l)
 own:∀g,v.ownBlock=some g->w.heap.size+2<g
 below:Below w w wr
theorem ClL.next {w wr W w8 w9:World}{v v1:Value}{l l2:List Val}{cs1:List VC}{c8:VC}{y:Val}{o:Obj}(h:ClL w wr v l)(hrow:RowAt wr 38 v cs1)(hcl:cs1.length=(yab.cloneL l).length)
  (hce:∀(i:Nat) (c:VC) (x:Val),cs1[i]? =some c->(yab.cloneL l)[i]? =some x->CF (fun g=>w.heap.size+2<g/\v.ownBlock≠some g) wr c x)(K0:Below wr wr W)
  (hc:CF (fun g=>W<=g) w8 c8 (yab y))(K8:Below W W w8)(hl2:yab.cloneL l2=yab.cloneL l++[yab y])
  (hr1:RowAt w9 38 v1 (cs1++[c8]))(hk1:Keeps (fun j=>v.ownBlock=some j) (w8.alloc o) w9)(hf1:∀g,v1.ownBlock=some g->v.ownBlock=some g\/(w8.alloc o).heap.size<=g):ClL w (w9.setCell ⟨w.heap.size+2,3,none⟩ v1) v1 l2:=by
 have D:=zlt h.b3;have C:=K0.size;have H:=K8.size;have own:∀g,v1.ownBlock=some g->w.heap.size+2<g:=fun g hg=>by
  rcases hf1 g hg with e|e
  .exact h.own g e
  .have E:w8.heap.size+1<=g:=by simpa using e
   omega
 have B:Keeps (fun _=>False) wr (w8.alloc o):=(zkb ((K0.trans (K8.mono C)))).alloc _;have A:Keeps (fun j=>v.ownBlock=some j) wr w9:=(B.mono (fun _ _ f=>f.elim)).trans hk1 (fun j _ e=>e);have KS:Keeps (fun j=>j=w+2) w9 (w9.setCell ⟨w.heap.size+2,3,none⟩ v1):=Keeps.setCell (S:=fun j=>j=w+2) (p:=⟨w.heap.size+2,3,none⟩) (Keeps.refl _ _) (.inl rfl) _;have b3:=(A.block _ D (fun e=>by have:=h.own _ e;omega)).trans h.b3;have b2:=(A.block (w.heap.size+1) (by omega) (fun e=>by have:=h.own _ e;omega)).trans h.b2;refine⟨by simp[World.setCell,zni,b3],(znn _ _ _ _ (by simp)).trans b2,?_,own,?_⟩
 .rw[hl2]
  refine VRow.keep (S:=fun j=>j=w+2) ?_ KS (fun g hg e=>by have E:g=w+2:=e;omega) (fun g hg e=>by have:=own g hg;omega);exact VRow.app (F:=fun g=>w.heap.size+2<g/\v.ownBlock≠some g) hcl (fun i c x h1 h2=>(hce i c x h1 h2).keep B (fun _ _ f=>f))
   ((hc.mono (G:=fun g=>w.heap.size+2<g/\v.ownBlock≠some g) (fun g hg _=>⟨by omega,fun e=>by have:=hrow.lt e;omega⟩)).keep (S:=fun _=>False) ((Keeps.refl _ _).alloc _) (fun _ _ f=>f))
   hr1 hk1 (fun g hg=>hg.2) (fun g hg hlt=>⟨hg.1,fun e=>(hf1 g e).elim (fun e=>hg.2 e) (fun e=>by omega)⟩)
 .exact(h.below.trans (A.below (by have:=h.below.size;omega) (fun j hj e=>by have:=h.own j e;omega))).setCell (p:=⟨w.heap.size+2,3,none⟩) (by show w<=w.heap.size+2;omega) _
theorem clone_list {n:Nat}(IH:CIH n)(x:Val)(hx:x.parts<=n+1)
  (ck cn:Int)(cs:ByteArray)(la:Option Addr)(ln lc:Nat)(F:Nat->Prop)(w:World)(C:CF F w ⟨ck,cn,cs,la,ln,lc⟩ x)(hz:szV x<=1073741824)
  (h3:(x.kind==3)=true):
  Calls Tryz.prog 58 #[.agg #[ck,cn,cs,.slice la ln lc]] w (ygF w x)
  :=by
 have R:ck=x.kind:=C.kind;obtain rfl:ck=3:=by rw[R];simpa using h3
 have hk:x.kind=3:=R.symm;have hp:=ybP x;rw[hk]at hp;obtain⟨J,Ab,hE⟩:=C.l.elems;have J:ln=x.list.length:=J;rw[yds,hk]at hz;have c:szV.szL x.list+30<=1073741824:=hz;have Ab:ln<=1073741824:=by have:=yjM x.list;omega
 have M:=zh6 hE J IH hx hp c;clear hE J IH hp R hk C h3 hx hz c;go_in;go_wp2_with fail;go_loopg [26] (ln) (fun gk v26 wr=>∃i:Nat,v26= .int .i64 i/\i<=ln/\gk=ln - i/\Hid (∃v,ClL w wr v (x.list.take i)))
 case atStart=>
  refine⟨0,rfl,znq _,rfl,zhd ⟨.slice none 0 0,⟨?_,?_,(by rw[List.take_zero,yab.cloneL];exact VRow.nil _ _ _),(fun g r=>by cases r),?_⟩⟩⟩
  .exact ygz (by simp)
  .exact(zne _ _ _ (by simp)).trans (ygz (by simp))
  .repeat(first|exact znv _ _|refine Below.setCell ?_ (by first|(simp;done)|(simp;omega)) _|refine Below.alloc ?_ (by first|(simp;done)|(simp;omega)) _)
 case round=>
  obtain⟨i,rfl,hi,q,D⟩:=hrel;obtain⟨v,D⟩:=D.o;obtain⟨I,B,Q,T⟩:=D.row;obtain⟨X,c3,rfl⟩:=B.slice;have O:I.length=i:=by rw[Q,ycB];have:=M.o.2.1;simp;omega
  rw[O]at B D T;have h3:=zca D.b3 3 rfl;have h0:=zca D.b3 0 rfl;have h1:=zca D.b3 1 rfl;have h2:=zca D.b3 2 rfl;have f3:∀o,wr.frozen? ⟨w.heap.size+2,o,none⟩=false:=fun o=>zfr D.b3 o;have f2:∀o,wr.frozen? ⟨w.heap.size+1,o,none⟩=false:=fun o=>zfr D.b2 o;obtain⟨r0,r1,r2,r3,_⟩:=zq4 D.b2;have l3:w.heap.size+2<wr.heap.size:=zlt D.b3;have A:=zh6 D B Q T q O;clear D B Q T q O;by_cases hin:i<ln
  .obtain⟨y,N⟩:=yac (l:=x.list) (k:=i) (by have:=M.o.2.1;omega)
   obtain⟨g,Ad,ha,Ag,r,z⟩:=M.o.1.resolve_left (fun e=>by rw[e]at N;simp at N);obtain⟨U,hC,q0,q1,q2,q3⟩:=z i y N;subst ha;have Af:g<wr:=by have:=A.o.1.below.size;omega
   have Ah:¬g=w.heap.size+2:=by omega
   rw[<-A.o.1.below.cell (p:=⟨g,_,none⟩) r]at q0 q1 q2 q3;have Aa:CF F wr U y:=hC.keep (S:=fun _=>False) (zkb A.o.1.below) (fun _ _ f=>f);have Ac:(i:Int)<ln:=by omega
   have d:y.parts<=n:=by
    have:=Val.parts_lt (v:=x) (zmg N);have:=M.o.2.2.2.1;omega
   have L:=zmg N;have CC:=zhd (fun W (K:Below wr wr W)=>M.o.2.2.1 y d U.kind U.n U.s U.la U.ln U.lc F W (Aa.keep (S:=fun _=>False) (zkb K) (fun _ _ f=>f)) (by have:=yjL L;have:=M.o.2.2.2.2.2;omega));have HY:=zhd (yk0 N);clear z hC Aa d L N;have NB:=zhd (show∀g,(Value.slice X i c3).ownBlock=some g->g≠w.heap.size+2 from fun g r e=>by have:=A.o.1.own g r;omega);have Ae:¬wr.heap.size=w.heap.size+2:=by omega
   have Y:=zhd (show(I.length+[(⟨0,0,⟨#[]⟩,none,0,0⟩:VC)].length)*56<=140737488355328/\I.length+[(⟨0,0,⟨#[]⟩,none,0,0⟩:VC)].length<=maxLen/\I.length+[(⟨0,0,⟨#[]⟩,none,0,0⟩:VC)].length=i+1 from by have:=A.o.2.2.2.2.2;unfold maxLen;simp;omega);go_wp2_with fail;go_region_law ((first
    |(go_simp;go_at_call 58;refine(CC.o _ (by repeat(first|exact znv _ _|refine Below.drew ?_|refine Below.alloc ?_ (znc _) _))).mono ?_;rintro e w8 ⟨⟨k8,n8,s8,b,Z,a⟩,rfl,H8⟩;have H:=(H8.o.2.block (w.heap.size+2) (by simp;omega)).trans ((zne _ _ _ l3).trans A.o.1.b3);have y3:w8.cell? ⟨w.heap.size+2,3,none⟩=some (.slice X i c3):=(by rw[zch H];rfl);have fy:∀o,w8.frozen? ⟨w.heap.size+2,o,none⟩=false:=(fun o=>zfr H o);have ly:w.heap.size+2<w8.heap.size:=(zlt H);have HG:=zhd H;clear H)
    |(refine yay (α:=VC) (o:=⟨some 35,_,_,_,_,_⟩) yfD (by rfl) (.tmp 31) (.tmp 34) (by rfl) (v:=.slice X i c3) (u:=.slice (some ⟨w8,0,none⟩) 1 1) (by rfl) (by rfl) (xs:=I) (ys:=[⟨k8,n8,s8,b,Z,a⟩]) (((A.o.2.1.drew.alloc _).below H8.o.2).alloc _) (RowAt.lit (α:=VC) (y:=⟨k8,n8,s8,b,Z,a⟩) (znb _ _)) Y.o.1 Y.o.2.1 (i+1) Y.o.2.2 ?_;intro a1 cp w9 m P t;have E:=(P.block (w.heap.size+2) (by simp;omega) (fun e=>NB.o _ e rfl)).trans ((zne _ _ _ ly).trans HG.o);have z3:w9.cell? ⟨w.heap.size+2,3,none⟩=some (.slice X i c3):=(by rw[zch E];rfl);have fz:∀o,w9.frozen? ⟨w.heap.size+2,o,none⟩=false:=(fun o=>zfr E o);have lz:w.heap.size+2<w9.heap.size:=zlt E;have FF:=zh4 m P t E;clear m P t E)))
   all_goals
    go_wp2_with fail;go_roundg (ln - (i+1))
    case measure=>have:=A.o.2.2.2.2.1;omega
    case rel=>exact⟨i+1,by simp,by omega,rfl,zhd ⟨_,A.o.1.next A.o.2.1 A.o.2.2.1 A.o.2.2.2.1 (by repeat(first|exact znv _ _|refine Below.drew ?_|refine Below.alloc ?_ (znc _) _)) H8.o.1 H8.o.2 HY.o FF.o.1 FF.o.2.1 FF.o.2.2.1⟩⟩
  .obtain rfl:i=ln:=by omega
   have ht:x.list.take i=x.list:=zmj (by have:=M.o.2.1;omega);go_wp2_with fail;refine zng (v:=.agg #[.int .i64 3,.int .i64 0,.string ⟨#[]⟩,.slice X i c3]) (by simp only[results,Tryz.results58];go_simp) rfl ⟨⟨3,0,⟨#[]⟩,X,i,c3⟩,rfl,zhd ⟨?_,?_⟩⟩
   .rw[M.o.2.2.2.2.1]
    refine⟨rfl,rfl,rfl,?_⟩;have V:VF (fun g=>w.heap.size+2<g) wr (.slice X i c3) (yab.cloneL x.list):=by
     have h:=A.o.1.row.vf (G:=fun g=>w.heap.size+2<g) (fun g h=>h.1) A.o.1.own;rw[ht]at h;exact h
    refine VF.mono (F:=fun g=>w.heap.size+2<g) (fun g (h:w.heap.size+2<g) _=>(show w<=g by omega)) (VF.keep (S:=fun j=>j=w+1) ?_ (fun g (h:w.heap.size+2<g) e=>by have e':g=w+1:=e;omega) V)
    repeat(first|exact Keeps.refl _ _|refine Keeps.setCell ?_ (Or.inl (by show w.heap.size+1=w.heap.size+1;rfl)) _)
   .refine A.o.1.below.trans ?_
    repeat(first|exact znv _ _|refine Below.setCell ?_ (by first|(simp;done)|(simp;omega)) _)
theorem ygo:∀n,CIH n
 |0=>fun x h=>by have:=x.parts_pos;omega
 |n+1=>fun x h ck cn cs la ln lc F w C hz=>by
  cases h3:(x.kind==3)with
  |false=>exact yk1 x ck cn cs la ln lc F w C hz h3
  |true=>exact clone_list (ygo n) x h ck cn cs la ln lc F w C hz h3
theorem yax (x:Val)
 (ck cn:Int)(cs:ByteArray)(la:Option Addr)(ln lc:Nat)(F:Nat->Prop)(w:World)(C:CF F w ⟨ck,cn,cs,la,ln,lc⟩ x)(hz:szV x<=1073741824)
 :
 Calls Tryz.prog 58 #[.agg #[ck,cn,cs,.slice la ln lc]] w (ygF w x)
 :=ygo x.parts x (znc _) ck cn cs la ln lc F w C hz
end Go.Proofs.YtpagmlndgblhhaaGreatDoor
namespace Go.Va
open Go.Own Go.RowKit
def ybw (n:Int):Val:=.mk 1 n ⟨#[]⟩ []
def yaK (b:Bool):Val:=ybw (bif b then 1 else 0)
def ybR (s:ByteArray):Val:=.mk 2 0 s []
def ycE (v:Val):Bool:=bif v.kind==1 then v.num !=0 else bif v.kind==2 then v.txt.size !=0 else bif v.kind==3 then decide (0<v.list.length)else false
structure Th where
 id:Int
 over:Bool
 result:Val
 how:Int
structure Ths where
 list:List Th
 next:Int
structure Lt where
 name:ByteArray
 v:Val
structure Cm where
 kind:Int
 time:Int
 a:Int
 b:Int
 name:ByteArray
 v:Val
structure Ev where
 id:Int
 time:Int
 kind:Int
 a:Int
 b:Int
 name:ByteArray
 text:ByteArray
 v:Val
structure MS where
 stk:List Val
 places:List Val
 at_:Nat
 input:Val
 now:Int
 timers:Ths
 acts:Ths
 letters:List Lt
 asked:Bool
 begun:Bool
 over:Bool
 trap:ByteArray
 made:List Cm
 taken:Nat
 events:Nat
 steps:Nat
def yav (id:Int):List Th->Option Nat
 |[]=>none
 |x::r=>if x.id=id then some 0 else(yav id r).map (· +1)
def ycl (t:Ths):Ths:=⟨t.list++[⟨t.next+1,false,.mk 0 0 ⟨#[]⟩ [],0⟩],t.next+1⟩
def ycA (id how:Int)(v:Val):List Th->List Th
 |[]=>[]
 |x::r=>if x.id=id then(bif x.over then x::r else⟨x.id,true,yab v,how⟩::r)else x::ycA id how v r
def yap (name:ByteArray):List Lt->Option Nat
 |[]=>none
 |x::r=>if x.name=name then some 0 else(yap name r).map (· +1)
def yag:Val:=.mk 0 0 ⟨#[]⟩ []
namespace MS
def push (s:MS)(v:Val):MS:={s with stk:=s.stk++[v]}
def pop (s:MS):MS:={s with stk:=s.stk.dropLast}
def top (s:MS):Val:=s.stk.getLast?.getD yag
def nxt (s:MS):MS:={s with at_:=s.at_+1}
def want (s:MS)(c:Cm):MS:={s with made:=s.made++[{c with time:=s.now,v:=yab c.v}],over:=s.over||(c.kind==4||c.kind==5||c.kind==6)}
def fall (s:MS)(why:ByteArray):MS:=({s with trap:=why}:MS).want ⟨5,0,0,0,⟨#[116,114,97,112,32]⟩++why,yag⟩
def openL (s:MS)(i:Nat):MS:={s with letters:=s.letters.eraseIdx i}
def letV (s:MS)(i:Nat):Val:=(s.letters[i]?.getD ⟨⟨#[]⟩,yag⟩).v
def put (s:MS)(v:Val):MS:=if checkL v≠0 then s.fall ⟨#[108,111,110,103]⟩else s.push v
def tType (s:MS):MS:=s.fall ⟨#[116,121,112,101]⟩
def tGone (s:MS):MS:=s.fall ⟨#[103,111,110,101]⟩
def tRange (s:MS):MS:=s.fall ⟨#[114,97,110,103,101]⟩
def tMany (s:MS):MS:=s.fall ⟨#[109,97,110,121]⟩
def arith (s:MS)(op:Int)(a b:Val):MS:=
 if a.kind≠1\/b.kind≠1 then s.tType else s.push (ybw (wrap64 (if op=5 then a.num+b.num else if op=6 then a.num - b.num else a.num*b.num)))
def two (s:MS)(op:Int)(a b:Val):MS:=
 if op=8 then s.push (yaK (cmpV a b==0))else
 if op=9 then s.push (yaK (decide (cmpV a b<0)))else
 if op=30 then(if a.kind≠3\/b.kind≠1 then s.tType else s.push (yab (if 0<=b.num/\b.num<a.list.length then a.list[b.num.toNat]?.getD yag else yag)))else
 if op=32 then(if a.kind=2/\b.kind=2 then s.put (ybR (a.txt++b.txt))else if a.kind=3/\b.kind=3 then s.put (yab (.mk 3 0 ⟨#[]⟩ (a.list++b.list)))else s.tType)else
 s.arith op a b
def reckon (s:MS)(op:Int)(k:Nat):MS:=
 if op=29 then({s with stk:=s.stk.take (s.stk.length - k)}:MS).put (.mk 3 0 ⟨#[]⟩ (s.stk.drop (s.stk.length - k)))else
 if op=10 then s.pop.push (yaK (!ycE s.top))else
 if op=31 then(if s.top.kind=3 then s.pop.push (ybw s.top.list.length)else if s.top.kind=2 then s.pop.push (ybw s.top.txt.size)else s.pop.tType)else
 s.pop.pop.two op s.pop.top s.top
def begin_ (s:MS)(op:Int)(name:ByteArray):MS:=
 let v:=s.top
 let s1:=s.pop
 if op=19 then
  (match(if v.kind=1 then yav v.num s.timers.list else none)with
  |none=>s1.tGone
  |some i=>
   let x:=s.timers.list[i]?.getD ⟨0,false,yag,0⟩
   let s2:={s1 with timers:=⟨s.timers.list.eraseIdx i,s.timers.next⟩}
   (bif x.over then s2 else s2.want ⟨2,0,v.num,0,⟨#[]⟩,yag⟩).push (yaK (!x.over)))else
 if v.kind≠1\/v.num<0\/(op=20/\1073741824<v.num)then s1.tRange else
 if 64<=s.timers.list.length+s.acts.list.length then s1.tMany else
 if op=20 then(({s1.pop with acts:=ycl s.acts}:MS).want ⟨3,0,s.acts.next+1,v.num,name,s1.top⟩).push (ybw (s.acts.next+1))else
 (({s1 with timers:=ycl s.timers}:MS).want ⟨1,0,s.timers.next+1,v.num,⟨#[]⟩,yag⟩).push (ybw (s.timers.next+1))
def wait (s:MS)(op:Int)(name:ByteArray):Option MS:=
 if op=22 then(yap name s.letters).map (fun i=>((s.openL i).push (s.letV i)).nxt)else
 let l:=if op=21 then s.acts.list else s.timers.list
 match(if s.top.kind=1 then yav s.top.num l else none)with
 |none=>some s.tGone
 |some i=>
  match(if op=28 then yap name s.letters else none)with
  |some k=>some (((s.pop.openL k).push (s.letV k)).push (yaK true)).nxt
  |none=>
   let x:=l[i]?.getD ⟨0,false,yag,0⟩
   bif !x.over then none else
   let s1:=if op=21 then{s.pop with acts:=⟨l.eraseIdx i,s.acts.next⟩}else{s.pop with timers:=⟨l.eraseIdx i,s.timers.next⟩}
   some (if op=18 then s1.push (ybw s.now)else if op=21 then(s1.push x.result).push (ybw x.how)else(s1.push yag).push (yaK false)).nxt
def end_ (s:MS)(op:Int)(name:ByteArray):MS:=
 if op=25 then s.pop.want ⟨4,0,0,0,⟨#[]⟩,s.top⟩else if op=27 then s.pop.want ⟨6,0,0,0,⟨#[]⟩,s.top⟩else s.want ⟨5,0,0,0,name,yag⟩
def go (s:MS)(p:Img)(op:Int)(k:Nat):MS:=
 let name:=p.names[k]?.getD ⟨#[]⟩
 if op=1 then s.push (yab (p.consts[k]?.getD yag))else
 if op=2 then s.pop else
 if op=3 then s.push (yab s.top)else
 if op=4 then(s.pop.pop.push s.top).push s.pop.top else
 if op=13 then s.push (yab (s.places[k]?.getD yag))else
 if op=14 then{s.pop with places:=s.places.set k s.top}else
 if op=15 then s.push (yab s.input)else
 if op=16 then s.push (ybw s.now)else
 if op=24 then s.push (yaK s.asked)else
 if op=23 then(match yap name s.letters with
  |some i=>((s.openL i).push (s.letV i)).push (yaK true)
  |none=>(s.push yag).push (yaK false))else
 if op=17\/op=19\/op=20 then s.begin_ op name else
 if op=0 then s else s.reckon op k
end MS
def yak (p:Img)(s:MS):Option MS:=
 let c:=p.code[s.at_]?.getD ⟨0,0⟩
 let i:=(ofL c.op).1
 bif i.blocks then s.wait c.op (p.names[c.a.toNat]?.getD ⟨#[]⟩)else
 bif i.ends then some (s.end_ c.op (p.names[c.a.toNat]?.getD ⟨#[]⟩))else
 bif i.flow then some (bif c.op==11 then{s with at_:=c.a.toNat}else bif ycE s.top then s.pop.nxt else{s.pop with at_:=c.a.toNat})else
 some (s.nxt.go p c.op c.a.toNat)
def ya3 (p:Img):Nat->MS->MS
 |0,s=>s
 |f+1,s=>bif s.over then s else match yak p s with
  |none=>s
  |some s'=>ya3 p f {s' with steps:=s'.steps+1}
end Go.Va
namespace Go.Va
open Go.Own Go.RowKit
def fitV (d:Int):Val->Int->Bool×Int
 | .mk _ _ s l,left=>bif decide (left - 1<0)||(decide (12<d)||decide (1100<s.size))then(false,left - 1)else fitL (d+1) l (left - 1)
where fitL (d:Int):List Val->Int->Bool×Int
 |[],left=>(true,left)
 |x::r,left=>bif (fitV d x left).1 then fitL d r (fitV d x left).2 else(false,(fitV d x left).2)
theorem ynr (d:Int)(x:Val)(left:Int):fitV d x left=bif decide (left - 1<0)||(decide (12<d)||decide (1100<x.txt.size))then(false,left - 1)else fitV.fitL (d+1) x.list (left - 1):=by
 cases x;rw[fitV];rfl
theorem yet (d:Int)(x:Val)(r:List Val)(left:Int):fitV.fitL d (x::r) left=bif (fitV d x left).1 then fitV.fitL d r (fitV d x left).2 else(false,(fitV d x left).2):=by rw[fitV.fitL]
theorem yip (d:Int)(left:Int):fitV.fitL d [] left=(true,left):=by rw[fitV.fitL]
mutual
theorem yfz:∀(x:Val) (d left:Int),left<=400->(fitV d x left).2<=400/\((fitV d x left).1=true->0<=(fitV d x left).2)
 | .mk k n s l,d,left,h=>by
   rw[fitV];by_cases h1:left - 1<0
   .rw[zno h1]
    simp;omega
   .rw[znd h1]
    cases(decide (12<d)||decide (1100<s.size))
    .simp only[Bool.false_or,znl]
     exact ykE l (d+1) (left - 1) (by omega) (by omega)
    .simp
     omega
theorem ykE:∀(l:List Val) (d left:Int),left<=400->0<=left->(fitV.fitL d l left).2<=400/\((fitV.fitL d l left).1=true->0<=(fitV.fitL d l left).2)
 |[],d,left,h,h0=>by rw[yip];exact⟨h,fun _=>h0⟩
 |x::r,d,left,h,h0=>by
  rw[yet];have h1:=yfz x d left h;cases hf:(fitV d x left).1 with
  |false=>exact⟨h1.1,fun e=>by cases e⟩
  |true=>exact ykE r d _ h1.1 (h1.2 hf)
end
def Val.all (P:Int->Int->ByteArray->Prop):Val->Prop
 | .mk k n s l=>P k n s/\allL l
where allL:List Val->Prop
 |[]=>True
 |x::r=>x.all P/\allL r
theorem Val.allL_iff {P:Int->Int->ByteArray->Prop}:∀{l:List Val},Val.all.allL P l↔∀x∈l,x.all P
 |[]=>by rw[Val.all.allL];simp
 |y::r=>by rw[Val.all.allL,Val.allL_iff];simp
mutual
theorem yfy:∀(x:Val) (d left:Int),(fitV d x left).1=true->x.all (fun _ _ s=>s.size<=1100)
 | .mk k n s l,d,left,h=>by
   rw[fitV]at h;rw[Val.all];cases hc:(decide (left - 1<0)||(decide (12<d)||decide (1100<s.size)))with
   |true=>rw[hc]at h;cases h
   |false=>
    rw[hc]at h;simp only[znl]at h;simp only[Bool.or_eq_false_iff,znz]at hc;exact⟨by omega,yio l (d+1) _ h⟩
theorem yio:∀(l:List Val) (d left:Int),(fitV.fitL d l left).1=true->Val.all.allL (fun _ _ s=>s.size<=1100) l
 |[],_,_,_=>by rw[Val.all.allL];trivial
 |x::r,d,left,h=>by
  rw[yet]at h;rw[Val.all.allL];cases hf:(fitV d x left).1 with
  |false=>rw[hf]at h;cases h
  |true=>
   rw[hf]at h;exact⟨yfy x d left hf,yio r d _ h⟩
end
end Go.Va
namespace Go.Proofs.YtpagmlndgblhhaaGreatDoor
open Go.RowKit Go.Own Go.Own.MapTy Go.Va Go.Sort
open Go.Own.Cells (sz enc)
def LX (w:World)(b:Nat)(n:Int):Prop:=w.heap[b]? =some (.cells #[n] 3 (0,0))
theorem LX.c {w:World}{b:Nat}{n:Int}(h:LX w b n):w.cell? ⟨b,0,none⟩=some (.int .i64 n):=by rw[zch h];rfl
theorem LX.keep {w w':World}{b:Nat}{n:Int}{S:Nat->Prop}(h:LX w b n)(K:Keeps S w w')(hs:¬S b):LX w' b n:=(K.block b (zlt h) hs).trans h
theorem LX.set {w:World}{b:Nat}{n:Int}(h:LX w b n)(m:Int):LX (w.setCell ⟨b,0,none⟩ (.int .i64 m)) b m:=by
 unfold LX at h|-;simp[World.setCell,zni,h]
def ynI (w:World)(b:Nat)(r:Bool×Int)(e:Ending)(w':World):Prop:=e= .returned (.bool r.1)/\Hid (LX w' b r.2/\Keeps (fun j=>j=b) w w')
def yqp (w:World)(b:Nat)(d:Int)(l:List Val)(r:Bool×Int)(gk:Nat)(v31:Value)(wr:World):Prop:=
 ∃(i:Nat) (cur:Int),v31= .int .i64 i/\i<=l.length/\gk=l.length - i/\LX wr b cur/\Keeps (fun j=>j=b) w wr/\fitV.fitL d (l.drop i) cur=r/\0<=cur/\cur<=400
end Go.Proofs.YtpagmlndgblhhaaGreatDoor
namespace Go.Proofs.YtpagmlndgblhhaaGreatDoor
open Go.ChangeShapes Go.WideShapes Go.Deep Go.RowKit Go.Own Go.Va
open Go.Own.Cells (sz enc)
section
variable{H:Type} {tok:TypeId×Value->H} {P:Program} {w:World} {base:Nat} {spare:Nat->Bool} {held:Bool}
theorem ykn {n:Int}(h:(Lit.int .i64 n).wf=true): -9223372036854775808<=n/\n<=9223372036854775807:=by
 have:IntKind.i64.min<=n/\n<=9223372036854775807:=by simpa[Lit.wf,IntKind.bits,IntKind.signed]using h
 exact this
theorem yeh {α:Type}[Cells α]{tS tE:TypeId}(ht:P.underlying tS=some (.slice tE))(hc:P.cellsOf tE=sz α)(h0:0<sz α){Q:α->Prop}{fuel:Nat}{cs:List Value}{x:DataW H×List MemPlace}(dflt:α)
  (hel:∀m,m<fuel->∀cs x,cs.length=sz α->DataW.trod tok P w base spare held m tE cs=some x->∃y:α,cs=enc y/\Q y)
  (h:DataW.trod tok P w base spare held fuel tS cs=some x):∃a len cap,cs=[.slice a len cap]/\∃ys:List α,RdF (fun j=>j<w) w (.slice a len cap) ys/\∀y∈ys,Q y:=by
 rcases DataW.trod_slice ht h with⟨rfl,_⟩|⟨a,len,cap,elems,R,n,rfl,rfl,_,_,Y,hm,S,N,_⟩
 .exact⟨none,0,0,rfl,[],RdF.nil _ _,fun y C=>by cases C⟩
 .have cell:∀i,i<len->∃y:α,Q y/\∀j u,(enc y)[j]? =some u->w.cell? (a.add (i*sz α+j))=some u:=by
   intro i D;have U:=N i D;rw[List.getElem?_eq_getElem (by omega),Option.bind_eq_some_iff]at U;obtain⟨O,L,G⟩:=U;obtain⟨_,F,B⟩:=World.cells?_some L;rw[hc]at F;obtain⟨y,C,X⟩:=hel n (Nat.lt_succ_self n) O _ F G;refine⟨y,X,fun j u hj=> ?_⟩;have J:j<sz α:=by have:=(zge hj).1;rwa[Cells.len]at this
   rw[hc]at B;rw[<-Go.Deep.add_add,B j J,C];exact hj
  have M:=Classical.axiomOfChoice (fun i=>show∃y:α,i<len->Q y/\∀j u,(enc y)[j]? =some u->w.cell? (a.add (i*sz α+j))=some u from by
   by_cases D:i<len
   .obtain⟨y,h⟩:=cell i D;exact⟨y,fun _=>h⟩
   .exact⟨dflt,fun h=>absurd h D⟩)
  obtain⟨f,K⟩:=M;refine⟨some a,len,cap,rfl,(List.range len).map f,⟨some a,cap,by simp,by simpa using Y,hm,?_⟩,?_⟩
  .intro i y C
   have D:i<len:=by have:=(zge C).1;simpa using this
   simp[D]at C;subst C;obtain⟨_,Z⟩:=K i D;obtain⟨b,A,rfl,T⟩:∃b A,a=⟨b,A,none⟩/\b<w.heap.size:=by
    have I:(enc (f 0)).length=sz α:=Cells.len _;have V:(enc (f 0))[0]? =some ((enc (f 0))[0]'(by omega)):=List.getElem?_eq_getElem _;have hc:=(K 0 (by omega)).2 0 _ V;simp only[Nat.zero_mul,Nat.add_zero]at hc;obtain⟨b,A,E⟩:=a;have W:E=none:=by simpa[Addr.add]using World.cell?_spot hc
    subst W;exact⟨b,A,rfl,by simpa[Addr.add]using World.block_lt_of_cell? w _ hc⟩
   refine⟨b,A,rfl,T,T,fun j u hj=> ?_⟩;have:=Z j u hj;simp only[Go.WideShapes.add_plain]at this;exact this
  .intro y C
   obtain⟨i,D,rfl⟩:=List.mem_map.1 C;exact(K i (List.mem_range.1 D)).1
theorem ykp {α:Type}{R:α->Val->Prop}:∀(ys:List α),(∀y∈ys,∃v,R y v)->∃l:List Val,ys.length=l.length/\∀(i:Nat) (c:α) (x:Val),ys[i]? =some c->l[i]? =some x->R c x
 |[],_=>⟨[],rfl,fun i c x h=>by simp at h⟩
 |y::r,h=>by
  obtain⟨v,hv⟩:=h y (zmf ..);obtain⟨l,B,A⟩:=ykp r (fun z hz=>h z (zme _ hz));refine⟨v::l,by simp[B],fun i c x hc hx=> ?_⟩;cases i with
  |zero=>
   simp at hc hx;subst hc hx;exact hv
  |succ i=>exact A i c x (by simpa using hc) (by simpa using hx)
def B64 (k n:Int)(_:ByteArray):Prop:=(-9223372036854775808<=k/\k<=9223372036854775807)/\ -9223372036854775808<=n/\n<=9223372036854775807
theorem ykH {cs:List Value}(h:cs.length=4):∃a b c d,cs=[a,b,c,d]:=by
 match cs,h with
 |[a,b,c,d],_=>exact⟨a,b,c,d,rfl⟩
theorem yko {w:World}{F:Nat->Prop}{v:Value}{ys:List VC}(hr:RdF F w v ys)(hq:∀y∈ys,∃x:Val,CF F w y x/\x.all B64):∃l:List Val,VF F w v l/\Val.all.allL B64 l:=by
 obtain⟨l,D,A⟩:=ykp (R:=fun(y:VC) (x:Val)=>CF F w y x/\x.all B64) ys hq;refine⟨l,.mk v ys l hr D (fun i c x hc hx=>⟨(A i c x hc hx).1.kind,(A i c x hc hx).1.n,(A i c x hc hx).1.s⟩) (fun i c x hc hx=>(A i c x hc hx).1.l),Val.allL_iff.2 (fun x hx=> ?_)⟩;obtain⟨i,C⟩:=List.mem_iff_getElem?.1 hx;have B:i<ys.length:=by rw[D];exact(zge C).1
 exact(A i _ x (List.getElem?_eq_getElem B) C).2
theorem yku:Tryz.prog.cellsOf 3=1:=by kernel_rfl
theorem yod:Tryz.prog.cellsOf 2=1:=by kernel_rfl
theorem ynd:Tryz.prog.cellsOf 9=1:=by kernel_rfl
theorem ymy:Tryz.prog.cellsOf 25=1:=by kernel_rfl
theorem ync:Tryz.prog.cellsOf 38=4:=by kernel_rfl
theorem ypg:Tryz.prog.cellsOf 106=2:=by kernel_rfl
theorem yoe:Tryz.prog.cellsOf 24=1:=by kernel_rfl
theorem yne:Tryz.prog.cellsOf 26=1:=by kernel_rfl
theorem yph:Tryz.prog.cellsOf 28=4:=by kernel_rfl
theorem yia:∀(fuel:Nat) (cs:List Value) (x:DataW H×List MemPlace),cs.length=4->DataW.trod tok Tryz.prog w base spare held fuel 38 cs=some x->∃y:VC,cs=enc y/\∃v:Val,CF (fun j=>j<w) w y v/\v.all B64:=by
 intro fuel
 induction fuel using Nat.strongRecOn with
 |_ fuel ih=>
  intro cs x X h;obtain⟨R,n,rfl,rfl,_,C,B⟩:=DataW.trod_struct Tryz.underlying38 h;obtain⟨c0,c1,c2,c3,rfl⟩:=ykH X
  match R,C with
  |[x0,x1,x2,x3],_=>
   have L:=B 0 _ rfl;have K:=B 1 _ rfl;have J:=B 2 _ rfl;have I:=B 3 _ rfl;simp[yku,yod,ynd,ymy]at L K J I;obtain⟨G,P,_,Z⟩:=DataW.trod_int Tryz.underlying3 L;obtain⟨F,O,_,Y⟩:=DataW.trod_int Tryz.underlying2 K;obtain⟨E,N,_,_⟩:=DataW.trod_string Tryz.underlying9 J;obtain⟨U,S,T,M,a,V,W⟩:=yeh (α:=VC) (Q:=fun y=>∃v:Val,CF (fun j=>j<w) w y v/\v.all B64) Tryz.underlying25 ync (by decide) ⟨0,0,.empty,none,0,0⟩ (fun m hm cs x hcl ht=>ih m (by omega) cs x hcl ht) I;simp at P O N M;subst P O N M;obtain⟨l,D,A⟩:=yko V W;refine⟨⟨G,F,E,U,S,T⟩,rfl,.mk G F E l,⟨rfl,rfl,rfl,D⟩,?_⟩;rw[Val.all];exact⟨⟨ykn Z,ykn Y⟩,A⟩
theorem yi5 {r:Reach}{b0:Nat}{v:Value}{d:DataW H}{p:List MemPlace}(hv:Value.okWide Tryz.prog w r b0 28 v)(h:DataW.Trod tok Tryz.prog w base spare held 28 v d p):
  ∃(i:IC) (im:Img),v= .agg #[.slice i.ca i.cn i.cc,.slice i.ka i.kn i.kc,.slice i.na i.nn i.nc,i.pl]/\IAt (fun j=>j<w) w i im/\Val.all.allL B64 im.consts/\(∀c∈im.code,-9223372036854775808<=c.a/\c.a<=9223372036854775807):=by
 obtain⟨B,rfl,C⟩:=okWide_struct Tryz.underlying28 hv;obtain⟨fuel,A⟩:=h;rw[yph]at C;have I:B.toList.length=4:=by simpa using C
 obtain⟨Y,n,rfl,_,_,E,A⟩:=DataW.trod_struct Tryz.underlying28 A;obtain⟨c0,c1,c2,c3,J⟩:=ykH I
 match Y,E with
 |[x0,x1,x2,x3],_=>
  have O:=A 0 _ rfl;have N:=A 1 _ rfl;have M:=A 2 _ rfl;have L:=A 3 _ rfl;simp[Value.cells,J,yku,yoe,yne,ymy]at O N M L;obtain⟨ca,cn,cc,X,ys0,g,o⟩:=yeh (α:=In) (Q:=fun y=> -9223372036854775808<=y.a/\y.a<=9223372036854775807) Tryz.underlying24 ypg (by decide) ⟨0,0⟩ (fun m hm B x hcl ht=>by
   obtain⟨Z,m2,_,_,_,G,K⟩:=DataW.trod_struct Tryz.underlying106 ht
   match B,hcl with
   |[u,v],_=>
    match Z,G with
    |[y0,y1],_=>
     have R:=K 0 _ rfl;have P:=K 1 _ rfl;simp[yku]at R P;obtain⟨t,T,_,_⟩:=DataW.trod_int Tryz.underlying3 R;obtain⟨q,S,_,z⟩:=DataW.trod_int Tryz.underlying3 P;simp at T S;subst T S;exact⟨⟨t,q⟩,rfl,ykn z⟩) O
  obtain⟨ka,kn,kc,W,ys1,f,k⟩:=yeh (α:=VC) (Q:=fun y=>∃v:Val,CF (fun j=>j<w) w y v/\v.all B64) Tryz.underlying25 ync (by decide) ⟨0,0,.empty,none,0,0⟩ (fun m _ B x hcl ht=>yia m B x hcl ht) N;obtain⟨na,nn,nc,V,ys2,b,_⟩:=yeh (α:=ByteArray) (Q:=fun _=>True) Tryz.underlying26 ynd (by decide) .empty (fun m hm B x hcl ht=>by
   obtain⟨s,e,_,_⟩:=DataW.trod_string Tryz.underlying9 ht;exact⟨s,e,trivial⟩) M
  obtain⟨pl,U,_,_⟩:=DataW.trod_int Tryz.underlying3 L;simp at X W V U;subst X W V U;obtain⟨l,F,D⟩:=yko f k;refine⟨⟨ca,cn,cc,ka,kn,kc,na,nn,nc,pl⟩,⟨ys0,l,ys2,pl⟩,?_,⟨g,F,b,rfl⟩,D,o⟩
  congr 1
  exact Array.ext' (by simpa using J)
end
theorem ynS:∀{x:Val},x.all B64->x.all (fun _ _ s=>s.size<=1100)->x.wf
 | .mk k n s l,h1,h2=>by
   rw[Val.all]at h1 h2;rw[Val.wf];exact⟨h1.1.1,h1.1.2,by have:=h2.1;omega,wfL_of h1.2 h2.2⟩
where wfL_of:∀{l:List Val},Val.all.allL B64 l->Val.all.allL (fun _ _ s=>s.size<=1100) l->Val.wf.wfL l
 |[],_,_=>by rw[Val.wf.wfL];trivial
 |x::r,h1,h2=>by
  rw[Val.all.allL]at h1 h2;rw[Val.wf.wfL];exact⟨ynS h1.1 h2.1,wfL_of h1.2 h2.2⟩
end Go.Proofs.YtpagmlndgblhhaaGreatDoor
namespace Go.Proofs.YtpagmlndgblhhaaGreatDoor
open Go.RowKit Go.Own Go.Own.MapTy Go.Va Go.Sort
open Go.Own.Cells (sz enc)
def textB (ls:List (List UInt8)):List UInt8:=ls.flatMap (fun l=>l++[10])
end Go.Proofs.YtpagmlndgblhhaaGreatDoor
namespace Go.Va
open Go.Own Go.RowKit
structure KV where
 vh:Value
 vt:Value
structure KSt where
 heights:List Int
 todo:List Nat
 most:Int
def KO (v:KV)(b j:Nat):Prop:=j=b\/v.vh.ownBlock=some j\/v.vt.ownBlock=some j
structure KS (W:World)(tc ti:TypeId)(b:Nat)(cv:Value)(v:KV)(st:KSt):Prop where
 h:W.heap[b]? =some (.cells #[cv,v.vh,v.vt,st.most] tc (0,0))
 heights:RowAt W ti v.vh st.heights
 todo:RowAt W ti v.vt st.todo
 sh:∀j,v.vh.ownBlock=some j->j≠b
 sd:∀j,v.vt.ownBlock=some j->j≠b/\v.vh.ownBlock≠some j
 lo:∀j,KO v b j->b<=j
def KK (b:Nat)(v:KV)(W:World)(v':KV)(W':World):Prop:=Keeps (KO v b) W W'/\∀j,KO v' b j->KO v b j\/W.heap.size<=j
theorem KK.refl (b:Nat)(v:KV)(W:World):KK b v W v W:=⟨Keeps.refl _ _,fun _ h=>.inl h⟩
theorem KK.trans {b:Nat}{v v' v'':KV}{W W' W'':World}(h:KK b v W v' W')(k:KK b v' W' v'' W''):KK b v W v'' W'':=by
 refine⟨h.1.trans k.1 (fun j hj e=>(h.2 j e).resolve_right (by omega)),fun j hj=> ?_⟩;rcases k.2 j hj with A|A
 .exact h.2 j A
 .exact .inr (znf h.1.size A)
theorem KK.ext {b:Nat}{v:KV}{W W':World}(K:Below W W W'):KK b v W v W':=⟨(zkb (S:=fun _=>False) K).mono (fun _ _ f=>f.elim),fun _ h=>.inl h⟩
section
variable{W W':World} {tc ti:TypeId} {b:Nat} {cv:Value} {v:KV} {st:KSt}
theorem KS.lt (R:KS W tc ti b cv v st){j:Nat}(h:KO v b j):j<W:=by
 rcases h with rfl|h|h
 .exact zlt R.h
 .exact R.heights.lt h
 .exact R.todo.lt h
theorem KS.ext (R:KS W tc ti b cv v st)(K:Below W W W'):KS W' tc ti b cv v st:=
 have A:Keeps (fun _=>False) W W':=zkb K
 ⟨(K.block b (zlt R.h)).trans R.h,R.heights.keep A (fun _ _ f=>f),R.todo.keep A (fun _ _ f=>f),R.sh,R.sd,R.lo⟩
theorem KS.setT (R:KS W tc ti b cv v st){w1:World}{v1:Value}{l1:List Nat}(hr:RowAt w1 ti v1 l1)(K:Keeps (fun j=>v.vt.ownBlock=some j) W w1)(hf:∀g,v1.ownBlock=some g->v.vt.ownBlock=some g\/W.heap.size<=g):
  KS (w1.setCell ⟨b,2,none⟩ v1) tc ti b cv {v with vt:=v1} {st with todo:=l1}/\KK b v W {v with vt:=v1} (w1.setCell ⟨b,2,none⟩ v1):=by
 have F:w1.heap[b]? =some (.cells #[cv,v.vh,v.vt,st.most] tc (0,0)):=(K.block b (zlt R.h) (fun e=>(R.sd b e).1 rfl)).trans R.h;have C:Keeps (fun j=>j=b) w1 (w1.setCell ⟨b,2,none⟩ v1):=Keeps.setCell (S:=fun j=>j=b) (p:=⟨b,2,none⟩) (Keeps.refl _ _) (.inl rfl) _;have D:Keeps (fun j=>j=b\/v.vt.ownBlock=some j) W (w1.setCell ⟨b,2,none⟩ v1):=(K.mono (fun _ _ e=>.inr e)).trans C (fun _ _ e=>.inl e);have A:∀j,KO v b j->j<W.heap.size:=fun j=>R.lt;have E:=zlt R.h;have B:∀j,v1.ownBlock=some j->j≠b/\v.vh.ownBlock≠some j:=fun j hj=>by
  rcases hf j hj with h|h
  .exact R.sd j h
  .exact⟨by omega,fun e=>by have:=A j (.inr (.inl e));omega⟩
 refine⟨⟨by simp[World.setCell,zni,F],R.heights.keep D (fun g hg e=>e.elim (R.sh g hg) (fun e=>(R.sd g e).2 hg)),hr.keep C (fun g hg=>(B g hg).1),R.sh,B,fun j hj=> ?_⟩,D.mono (fun j _ e=>e.elim .inl (fun e=>.inr (.inr e))),fun j hj=> ?_⟩
 .rcases hj with e|e|e
  .exact R.lo j (.inl e)
  .exact R.lo j (.inr (.inl e))
  .rcases hf j e with h|h
   .exact R.lo j (.inr (.inr h))
   .omega
 .rcases hj with e|e|e
  .exact .inl (.inl e)
  .exact .inl (.inr (.inl e))
  .exact(hf j e).imp (fun h=>.inr (.inr h)) id
theorem KS.setH (R:KS W tc ti b cv v st){w1:World}{v1:Value}{l1:List Int}(hr:RowAt w1 ti v1 l1)(K:Keeps (fun j=>v.vh.ownBlock=some j) W w1)(hf:∀g,v1.ownBlock=some g->v.vh.ownBlock=some g\/W.heap.size<=g):
  KS (w1.setCell ⟨b,1,none⟩ v1) tc ti b cv {v with vh:=v1} {st with heights:=l1}/\KK b v W {v with vh:=v1} (w1.setCell ⟨b,1,none⟩ v1):=by
 have F:w1.heap[b]? =some (.cells #[cv,v.vh,v.vt,st.most] tc (0,0)):=(K.block b (zlt R.h) (fun e=>R.sh b e rfl)).trans R.h;have C:Keeps (fun j=>j=b) w1 (w1.setCell ⟨b,1,none⟩ v1):=Keeps.setCell (S:=fun j=>j=b) (p:=⟨b,1,none⟩) (Keeps.refl _ _) (.inl rfl) _;have D:Keeps (fun j=>j=b\/v.vh.ownBlock=some j) W (w1.setCell ⟨b,1,none⟩ v1):=(K.mono (fun _ _ e=>.inr e)).trans C (fun _ _ e=>.inl e);have B:∀j,KO v b j->j<W.heap.size:=fun j=>R.lt;have E:=zlt R.h;have A:∀j,v1.ownBlock=some j->j≠b/\v.vt.ownBlock≠some j:=fun j hj=>by
  rcases hf j hj with h|h
  .exact⟨R.sh j h,fun e=>(R.sd j e).2 h⟩
  .exact⟨by omega,fun e=>by have:=B j (.inr (.inr e));omega⟩
 refine⟨⟨by simp[World.setCell,zni,F],hr.keep C (fun g hg=>(A g hg).1),R.todo.keep D (fun g hg e=>e.elim (R.sd g hg).1 (fun e=>(R.sd g hg).2 e)),fun j hj=>(A j hj).1,fun j hj=>⟨(R.sd j hj).1,fun e=>(A j e).2 hj⟩,fun j hj=> ?_⟩,D.mono (fun j _ e=>e.elim .inl (fun e=>.inr (.inl e))),fun j hj=> ?_⟩
 .rcases hj with e|e|e
  .exact R.lo j (.inl e)
  .rcases hf j e with h|h
   .exact R.lo j (.inr (.inl h))
   .omega
  .exact R.lo j (.inr (.inr e))
 .rcases hj with e|e|e
  .exact .inl (.inl e)
  .exact(hf j e).imp (fun h=>.inr (.inl h)) id
  .exact .inl (.inr (.inr e))
theorem KS.setM (R:KS W tc ti b cv v st)(m:Int):KS (W.setCell ⟨b,3,none⟩ (.int .i64 m)) tc ti b cv v {st with most:=m}/\KK b v W v (W.setCell ⟨b,3,none⟩ (.int .i64 m)):=by
 have A:Keeps (fun j=>j=b) W (W.setCell ⟨b,3,none⟩ (.int .i64 m)):=Keeps.setCell (S:=fun j=>j=b) (p:=⟨b,3,none⟩) (Keeps.refl _ _) (.inl rfl) _;exact⟨⟨by simp[World.setCell,zni,R.h],R.heights.keep A (fun g hg=>R.sh g hg),R.todo.keep A (fun g hg=>(R.sd g hg).1),R.sh,R.sd,R.lo⟩,A.mono (fun j _ e=>.inl e),fun j h=>.inl h⟩
theorem KS.poke (R:KS W tc ti b cv v st){g off n cap:Nat}(hv:v.vh= .slice (some ⟨g,off,none⟩) n cap){k:Nat}{x:Int}(hx:st.heights[k]? =some x)(h:Int):
  KS (W.setCell ⟨g,off+k,none⟩ (.int .i64 h)) tc ti b cv v {st with heights:=st.heights.set k h}/\KK b v W v (W.setCell ⟨g,off+k,none⟩ (.int .i64 h)):=by
 have A:v.vh.ownBlock=some g:=by rw[hv];rfl
 have B:Keeps (fun j=>j=g) W (W.setCell ⟨g,off+k,none⟩ (.int .i64 h)):=Keeps.setCell (S:=fun j=>j=g) (p:=⟨g,off+k,none⟩) (Keeps.refl _ _) (.inl rfl) _;refine⟨⟨(B.block b (zlt R.h) (fun e=>R.sh g A e.symm)).trans R.h,?_,R.todo.keep B (fun j hj e=>(R.sd j hj).2 (by subst e;exact A)),R.sh,R.sd,R.lo⟩,B.mono (fun j _ e=>by subst e;exact .inr (.inl A)),fun j h=>.inl h⟩;have:=R.heights;rw[hv]at this|-;have C:=this.setOne hx (y:=h) (j:=0) (u:=.int .i64 h) (by decide) rfl;rwa[show off+(k*Cells.sz Int+0)=off+k from by simp[Cells.sz]]at C
end
def comeL (n k:Nat)(h:Int)(st:KSt):Int×KSt:=
 bif decide (n<=k)then(132,st)else
 bif decide (st.heights.getD k 0<0)then(0,{st with heights:=st.heights.set k h,todo:=st.todo++[k]})else
 bif st.heights.getD k 0 !=h then(131,st)else(0,st)
end Go.Va
namespace Go.Proofs.YtpagmlndgblhhaaGreatDoor
open Go.RowKit Go.Own Go.Own.MapTy Go.Va Go.Sort
open Go.Own.Cells (sz enc)
abbrev KX (W:World)(b:Nat)(cv:Value)(v:KV)(st:KSt):Prop:=KS W 177 3 b cv v st
def yoR (W:World)(b:Nat)(cv:Value)(v:KV)(r:Int×KSt)(e:Ending)(w':World):Prop:=∃v',e= .returned (.int .i64 r.1)/\Hid (KX w' b cv v' r.2/\KK b v W v' w')
theorem ykQ:ElemOf Nat Tryz.prog 79 3 8:=yb5 Tryz.underlying79 (z:=.int .i64 0) (n:=1) (by kernel_rfl) rfl rfl
theorem yoo:ElemOf Int Tryz.prog 79 3 8:=yb5 Tryz.underlying79 (z:=.int .i64 0) (n:=1) (by kernel_rfl) rfl rfl
theorem yis (b:Nat)(ca:Option Addr)(n cc:Nat)(v:KV)(st:KSt)(k:Nat)(h:Int)(W:World)(R:KX W b (.slice ca n cc) v st)(hn:st.heights.length=n)(ht:st.todo.length<=65536)(r:Int×KSt)(hr:comeL n k h st=r):
  Calls Tryz.prog 133 #[.pointer (some ⟨b,0,none⟩),k,h] W (yoR W b (.slice ca n cc) v r):=by
 obtain⟨Q,P⟩:=v;obtain⟨M,L,rfl⟩:∃a cap,P= .slice a st.todo.length cap:=R.todo.slice;obtain⟨Z,X,rfl⟩:∃a cap,Q= .slice a st.heights.length cap:=R.heights.slice;have t:=zlt R.h;have H:∀o,W.cell? ⟨b,o,none⟩=(#[.slice ca n cc,.slice Z st.heights.length X,.slice M st.todo.length L,.int .i64 st.most]:Array Value)[o]? :=fun o=>by rw[zch R.h]
 have U:=H 0;have N:=H 1;have T:=H 2;simp only[zmc,zma,zmb]at U N T;clear H;have q:∀o,W.frozen? ⟨b,o,none⟩=false:=fun o=>zfr R.h o;unfold comeL at hr;have B:=zhd R;clear R;go_in;by_cases hk:n<=k
 .have d:(n:Int)<=k:=by omega
  rw[zno hk]at hr;simp only[znm]at hr;subst hr;clear hk;go_wp2;go_ret;exact⟨_,rfl,zhd ⟨B.o,KK.refl _ _ _⟩⟩
 .have d:¬(n:Int)<=k:=by omega
  rw[znd hk]at hr;simp only[znl]at hr;obtain⟨x,I⟩:=yac (l:=st.heights) (k:=k) (by omega);have V:(k:Int)<st.heights.length:=by omega
  rw[List.getD_eq_getElem?_getD,I,Option.getD_some]at hr;obtain⟨g,D,rfl,j⟩:=B.o.heights.addr I;have i:=yde B.o.heights I;have J:¬g=b:=B.o.sh g rfl;have Y:¬b=g:=fun e=>J e.symm;have m:∀o,W.frozen? ⟨g,o,none⟩=false:=fun o=>B.o.heights.frozen o;have O:=zh2 hn ht;clear hn ht hk;cases h1:decide (x<0)with
  |true=>
   have c:x<0:=znx h1;rw[h1]at hr;simp only[znm]at hr;subst hr;have G:=zhd (B.o.poke rfl I h);have f:=zhd (show((W.setCell ⟨g,D+k,none⟩ (.int .i64 h)).alloc (.cells #[k] 3)).heap[W.heap.size]? =some (.cells (Cells.enc k).toArray 3 (0,0))from by
    have:=znb (W.setCell ⟨g,D+k,none⟩ (.int .i64 h)) (.cells #[k] 3);rwa[ycn]at this)
   go_wp2_with (at_builtin;go_must (refine ybG (α:=Nat) ykQ rfl (.tmp 35) (.tmp 37) rfl (G.o.1.todo.alloc _) k rfl rfl f.o (by have:=O.o.2;dsimp only;omega) (by have:=O.o.2;dsimp only;unfold maxLen;omega) ?_);intro u N w1 E C F;have A:=(C.block b (by simp;omega) (fun e=>(G.o.1.sd b e).1 rfl)).trans ((zne _ _ _ (by simp;omega)).trans G.o.1.h);have c2:w1.cell? ⟨b,2,none⟩=some (.slice M st.todo.length L):=by{rw[zch A];rfl};have p:∀o,w1.frozen? ⟨b,o,none⟩=false:=fun o=>zfr A o;have s:b<w1:=zlt A;have K:=zh3 E C F;clear A E C F);have S:=(G.o.1.ext (zal)).setT K.o.1 K.o.2.1 K.o.2.2;go_ret;exact⟨_,rfl,zhd ⟨S.1,G.o.2.trans ((KK.ext (zal)).trans S.2)⟩⟩
  |false=>
   have c:¬x<0:=zny h1;rw[h1]at hr;simp only[znl]at hr;cases h2:(x !=h)with
   |true=>
    rw[h2]at hr;simp only[znm]at hr;subst hr;go_wp2;go_ret;exact⟨_,rfl,zhd ⟨B.o,KK.refl _ _ _⟩⟩
   |false=>
    rw[h2]at hr;simp only[znl]at hr;subst hr;go_wp2;go_ret;exact⟨_,rfl,zhd ⟨B.o,KK.refl _ _ _⟩⟩
end Go.Proofs.YtpagmlndgblhhaaGreatDoor
namespace Go.Va
open Go.Own Go.RowKit
def ybW (n:Nat)(h:Int):List Nat->KSt->Int×KSt
 |[],st=>(0,st)
 |x::r,st=>bif (comeL n x h st).1 !=0 then comeL n x h st else ybW n h r (comeL n x h st).2
def stepL (n:Nat)(c:In)(k:Nat)(st:KSt):Int×KSt:=
 bif decide (st.heights.getD k 0 - yaC c<0)then(131,st)else
 bif decide (32<st.heights.getD k 0 - yaC c+(ofL c.op).1.o)then(131,st)else
 ybW n (st.heights.getD k 0 - yaC c+(ofL c.op).1.o) (followN c k) {st with most:=max st.most (st.heights.getD k 0 - yaC c+(ofL c.op).1.o)}
theorem ygk (n k:Nat)(h:Int)(st:KSt):(comeL n k h st).2.heights.length=st.heights.length/\(comeL n k h st).2.todo.length<=st.todo.length+1:=by
 unfold comeL;cases decide (n<=k)
 .cases decide (st.heights.getD k 0<0)
  .cases(st.heights.getD k 0 !=h)<;>simp
  .simp
 .simp
def yjd:List Int->Nat
 |[]=>0
 |x::r=>(bif decide (x<0)then 1 else 0)+yjd r
theorem yif:∀(l:List Int) (k:Nat) (x h:Int),l[k]? =some x->x<0->0<=h->yjd (l.set k h)+1=yjd l
 |[],_,_,_,hx,_,_=>by simp at hx
 |y::r,0,x,h,hx,h1,h2=>by
  simp at hx;subst hx;simp only[List.set_cons_zero,yjd,zno h1,znd (show¬h<0 by omega),znm,znl];omega
 |y::r,k+1,x,h,hx,h1,h2=>by
  have:=yif r k x h (by simpa using hx) h1 h2;simp only[List.set_cons_succ,yjd];omega
theorem yb2:∀n:Nat,yjd (List.replicate n (-1))=n
 |0=>rfl
 |n+1=>by
  rw[List.replicate_succ,yjd,yb2 n];simp;omega
structure Inv (n f:Nat)(st:KSt):Prop where
 len:st.heights.length=n
 all:∀x∈st.heights,-1<=x/\x<=32
 todo:∀k∈st.todo,∃x,st.heights[k]? =some x/\0<=x
 less:yjd st.heights+st.todo.length<=f
 m0:0<=st.most
 m1:st.most<=32
theorem yeB {n f k:Nat}{h:Int}{st:KSt}(I:Inv n f st)(h0:0<=h)(h1:h<=32):Inv n f (comeL n k h st).2:=by
 unfold comeL;by_cases hk:n<=k
 .rw[zno hk];exact I
 .rw[znd hk]
  simp only[znl];obtain⟨x,D⟩:∃x,st.heights[k]? =some x:=⟨st.heights[k]'(by have:=I.len;omega),by simp⟩;rw[List.getD_eq_getElem?_getD,D,Option.getD_some];by_cases hn:x<0
  .rw[zno hn]
   simp only[znm];refine⟨by simpa using I.len,fun y A=> ?_,fun j B=> ?_,?_,I.m0,I.m1⟩
   .rcases List.mem_or_eq_of_mem_set A with h|rfl
    .exact I.all y h
    .omega
   .simp only[List.mem_append,List.mem_singleton]at B
    rcases B with B|rfl
    .obtain⟨y,A,C⟩:=I.todo j B
     refine⟨y,?_,C⟩;rw[List.getElem?_set_ne]
     .exact A
     .intro e
      subst e;rw[D]at A;cases A;omega
    .exact⟨h,by rw[List.getElem?_set_self (by have:=I.len;omega)],h0⟩
   .have:=yif st.heights k x h D hn h0
    have:=I.less;simp only[znk,zmh];omega
  .rw[znd hn]
   simp only[znl];cases(x !=h)
   .exact I
   .exact I
theorem yfc {n f:Nat}{h:Int}(h0:0<=h)(h1:h<=32):∀(l:List Nat) {st:KSt},Inv n f st->Inv n f (ybW n h l st).2
 |[],_,I=>I
 |x::r,st,I=>by
  have h2:=yeB (k:=x) I h0 h1;rw[ybW];cases((comeL n x h st).1 !=0)
  .exact yfc h0 h1 r h2
  .exact h2
theorem yfN {n f k:Nat}{c:In}{st:KSt}(I:Inv n f st)(ho:0<=(ofL c.op).1.o):Inv n f (stepL n c k st).2:=by
 unfold stepL;generalize hh:st.heights.getD k 0 - yaC c=d;by_cases h1:d<0
 .rw[zno h1];exact I
 .rw[znd h1]
  simp only[znl];by_cases h2:32<d+(ofL c.op).1.o
  .rw[zno h2];exact I
  .rw[znd h2]
   simp only[znl];exact yfc (by omega) (by omega) _ ⟨I.len,I.all,I.todo,I.less,by have:=I.m0;show 0<=max _ _;omega,by have:=I.m1;show max _ _<=(32:Int);omega⟩
def yiy (code:List In):Nat->KSt->(Int×Int)×KSt
 |0,st=>((-1,0),st)
 |f+1,st=>match st.todo with
  |[]=>((-1,0),st)
  |k::r=>match code[k]? with
   |none=>((-1,0),st)
   |some c=>bif (stepL code.length c k {st with todo:=r}).1 !=0 then(((k:Int),(stepL code.length c k {st with todo:=r}).1),(stepL code.length c k {st with todo:=r}).2)else yiy code f (stepL code.length c k {st with todo:=r}).2
def walkL (code:List In):(Int×Int)×KSt:=
 let q:=comeL code.length 0 0 ⟨List.replicate code.length (-1),[],0⟩
 bif q.1 !=0 then((0,q.1),q.2)else yiy code (code.length+1) q.2
structure CodeOk (code:List In):Prop where
 len:code.length<=512
 a0:∀c∈code,0<=c.a
 tk:∀c∈code,0<=yaC c/\yaC c<=512
 o:∀c∈code,0<=(ofL c.op).1.o/\(ofL c.op).1.o<=2
theorem cIn (c:In):(⟨c.op,c.a⟩:In)=c:=rfl
end Go.Va
namespace Go.Proofs.YtpagmlndgblhhaaGreatDoor
open Go.RowKit Go.Own Go.Own.MapTy Go.Va Go.Sort
open Go.Own.Cells (sz enc)
theorem KK.row {α:Type}[Cells α]{b:Nat}{v v':KV}{W W':World}{e:TypeId}{x:Value}{l:List α}(K:KK b v W v' W')(h:RowAt W e x l)(hx:∀g,x.ownBlock=some g->¬KO v b g):RowAt W' e x l:=h.keep K.1 hx
theorem yd9 {w:World}{e:TypeId}{xs:List Nat}{g off n cap:Nat}(h:RowAt w e (.slice (some ⟨g,off,none⟩) n cap) xs){i:Nat}{x:Nat}(hx:xs[i]? =some x):w.cell? ⟨g,off+i,none⟩=some (.int .i64 (x:Int)):=by
 have A:=h.cell hx (j:=0) (by decide);rwa[show off+(i*Cells.sz Nat+0)=off+i from by simp[Cells.sz]]at A
theorem yez {α:Type}[Cells α]{P:Program}{t e:TypeId}{bytes:Nat}(E:ElemOf α P t e bytes){w:World}{ad:Option Addr}{n cap:Nat}{xs:List α}(h:RowAt w e (.slice ad n cap) xs){k:Nat}(hk:k<=xs.length):
  ∃ad',(∀W:World,(Instr.slice t (.slice ad n cap) (some (.int .i64 k)) none none).run P W= .ok (.slice ad' (n - k) (cap - k)) W)/\RowAt w e (.slice ad' (n - k) (cap - k)) (xs.drop k)/\∀g,(Value.slice ad' (n - k) (cap - k)).ownBlock=some g->(Value.slice ad n cap).ownBlock=some g:=by
 obtain⟨i,z,hi,L,I,K,J⟩:=E.hi;cases ad with
 |none=>
  rcases h with⟨h,rfl⟩|⟨g,A,c,B,h,_⟩
  .cases h
   simp at hk;subst hk;exact⟨none,fun W=>by simp[Instr.slice,run_underlying E.ht,Instr.sliceBounds,Instr.sliceBound,asIntOf,sizeOf,typeInfo,hi,Result.andThen],.inl ⟨rfl,rfl⟩,fun g h=>(by cases h)⟩
  .cases h
 |some ad=>
  rcases h with⟨h,_⟩|⟨g,A,c,B,h,F,D⟩
  .cases h
  .cases h
   obtain⟨C,H,G⟩:=ycG E.ht hi I (RowAt.slice_mk F D) hk;exact⟨_,H,G,fun g h=>h⟩
theorem ylp (b:Nat)(F:Nat->Prop)(hF:∀j,F j->j<b)(ca:Option Addr)(n cc:Nat)(code:List In)(v:KV)(st:KSt)(k:Nat)(c:In)(W:World)(R:KX W b (.slice ca n cc) v st)(HC:RdF F W (.slice ca n cc) code)(hc:code[k]? =some c)
  (hn:st.heights.length=n)(ht:st.todo.length<=65530)(hk:k<65536)(ha:0<=c.a)(h1:0<=yaC c/\yaC c<=512)(h2:0<=(ofL c.op).1.o/\(ofL c.op).1.o<=2)(x:Int)(hx:st.heights[k]? =some x)(hx1: -1<=x/\x<=32)(r:Int×KSt)(hr:stepL n c k st=r):
  Calls Tryz.prog 134 #[.pointer (some ⟨b,0,none⟩),k] W (yoR W b (.slice ca n cc) v r):=by
 unfold stepL at hr;obtain⟨t,Al,g,E,V,Aa⟩:=HC.elems;obtain⟨As,hg,U⟩:=Aa k c hc;have V:=V.resolve_right (fun e=>by rw[e]at hc;simp at hc);subst V;have m0:=U 0 _ rfl;have m1:=U 1 _ rfl;rw[show E+(k*sz In+0)=E+k*2 from rfl]at m0;rw[show E+(k*sz In+1)=E+k*2+1 from rfl]at m1;have An:=(zge hc).1;have Am:(k:Int)<n:=by omega
 have FO:=zhd (fun W' (K:Keeps (fun j=>b<=j) W W')=>ydh (HC.keep K (fun g hg=>by have:=hF g hg;omega)) k c hc ha hk);have Ap:(followN c k).length<=2:=by
  unfold followN;cases(ofL c.op).1.ends
  .cases(c.op==11)
   .cases(ofL c.op).1.flow<;>simp
   .simp
  .simp
 generalize followN c k=fl at*;have HW:=zh2 HC hF;clear Aa U hc HC ha;obtain⟨vh,vt⟩:=v;obtain⟨ta,tc,rfl⟩:∃a cap,vt= .slice a st.todo.length cap:=R.todo.slice;obtain⟨ha,hc,rfl⟩:∃a cap,vh= .slice a st.heights.length cap:=R.heights.slice;have Y:=zlt R.h;have qq:∀o,W.cell? ⟨b,o,none⟩=(#[.slice (some ⟨g,E,none⟩) n cc,.slice ha st.heights.length hc,.slice ta st.todo.length tc,.int .i64 st.most]:Array Value)[o]? :=fun o=>by rw[zch R.h]
 have l:=qq 0;have q1:=qq 1;have f:=qq 3;simp only[zmc,zma,zmb]at l q1 f;clear qq;have f0:∀o,W.frozen? ⟨b,o,none⟩=false:=fun o=>zfr R.h o;obtain⟨Q,L,rfl,O⟩:=R.heights.addr hx;have y0:=yde R.heights hx;have Ao:(k:Int)<st.heights.length:=by omega
 rw[List.getD_eq_getElem?_getD,hx,Option.getD_some]at hr;obtain⟨A,ok,M⟩:∃A ok,ofL c.op=(A,ok):=⟨_,_,rfl⟩;have OF:=zhd (ybb c.op A ok M);have TK:=zhd (yjK c.op c.a);rw[cIn]at TK;rw[M]at hr h2;obtain⟨tk,s⟩:∃tk,yaC c=tk:=⟨_,rfl⟩;rw[s]at hr h1 TK;dsimp only at hr h2;have Ak:IntKind.i64.wrap (x - tk)=x - tk:=zmk _ (by omega);have q:IntKind.i64.wrap (x - tk+A.o)=x - tk+A.o:=zmk _ (by omega);obtain⟨op,a⟩:=c;dsimp only at m0 m1 OF TK;have HR:=zhd R;have HB:=zh3 hn ht t;clear R hn ht t M s hx;go_in;go_wp2_with fail;refine(OF.o _).mono ?_;rintro e w5 ⟨rfl,I⟩;obtain⟨w6,C⟩:∃w6,w6=w5.alloc (.cells #[A.name,A.operand,A.i,A.o,A.blocks,A.ends,A.flow] 169):=⟨_,rfl⟩;have Ae:W.heap.size+1<=w5.heap.size:=by have:=I.size;simpa using this
 have B5:Below W W w5:=((znv _ _).alloc (znc _) (.cells #[op,a] 106)).trans (I.mono (by simp));have Z:Below W W w6:=by rw[C];exact B5.alloc (by omega) _
 have Ad:w6.heap.size=w5.heap.size+1:=by rw[C];simp
 have Ar:¬b=w5.heap.size:=by omega
 have u3:w6.cell? ⟨w5,3,none⟩=some (.int .i64 A.o):=by rw[C,zch (znb _ _)];rfl
 have i0:w6.cell? ⟨W,0,none⟩=some (.int .i64 op):=by rw[C,znt (w:=w5) (zne _ _ _ (by show W<w5.heap.size;omega)),I.cell (p:=⟨W,0,none⟩) (by simp),zch (znb _ _)];rfl
 have i1:w6.cell? ⟨W,1,none⟩=some (.int .i64 a):=by rw[C,znt (w:=w5) (zne _ _ _ (by show W<w5.heap.size;omega)),I.cell (p:=⟨W,1,none⟩) (by simp),zch (znb _ _)];rfl
 have R6:=HR.o.ext Z;have l:=(Z.cell (p:=⟨b,0,none⟩) Y).trans l;have q1:=(Z.cell (p:=⟨b,1,none⟩) Y).trans q1;have f:=(Z.cell (p:=⟨b,3,none⟩) Y).trans f;have y0:=(Z.cell (p:=⟨Q,L+k,none⟩) O).trans y0;have Y:b<w6:=by omega
 have O:Q<w6.heap.size:=by omega
 have lW:W<w6.heap.size:=by omega
 have l5:w5<w6.heap.size:=by omega
 have f0:∀o,w6.frozen? ⟨b,o,none⟩=false:=fun o=>zfr R6.h o;have H6:=zh2 Z R6;go_wp2_with fail;rw[<-C];clear C B5 Z R6 I Ae Ad OF m0 m1 hg;refine yaF (by kernel_rfl) (by kernel_rfl) ?_
 repeat(go_big_quiet_step ((go_at_call 154;exact ydQ (TK.o _))))
 refine wpQuiet_nil ?_;intro w7 D;have l:=(D.cell (p:=⟨b,0,none⟩) Y).trans l;have f:=(D.cell (p:=⟨b,3,none⟩) Y).trans f;have u3:=(D.cell (p:=⟨w5,3,none⟩) l5).trans u3;have J:=zh2 (H6.o.1.trans (D.mono H6.o.1.size)) (H6.o.2.ext D);have f0:∀o,w7.frozen? ⟨b,o,none⟩=false:=fun o=>zfr J.o.2.h o;have Y:b<w7:=zlt J.o.2.h;have l5:w5<w7.heap.size:=znj l5 D.size;clear D i0 i1 y0 q1 O lW TK;cases h5:decide (x - tk<0)with
 |true=>
  have e5:x - tk<0:=znx h5;rw[h5]at hr;simp only[znm]at hr;subst hr;go_wp2;go_ret;exact⟨_,rfl,zhd ⟨J.o.2,KK.ext J.o.1⟩⟩
 |false=>
  have e5:¬x - tk<0:=zny h5;rw[h5]at hr;simp only[znl]at hr;cases h6:decide (32<x - tk+A.o)with
  |true=>
   have e6:32<x - tk+A.o:=znx h6;rw[h6]at hr;simp only[znm]at hr;subst hr;go_wp2;go_ret;exact⟨_,rfl,zhd ⟨J.o.2,KK.ext J.o.1⟩⟩
  |false=>
   have e6:¬32<x - tk+A.o:=zny h6;rw[h6]at hr;simp only[znl]at hr;obtain⟨h,hh⟩:∃h,h=x - tk+A.o:=⟨_,rfl⟩;have Aj:IntKind.i64.wrap (x - tk+A.o)=h:=by rw[hh];exact q
   rw[<-hh]at hr e6;have PM:=zhd (J.o.2.setM (max st.most h));have K8:=zhd (((KK.ext J.o.1).trans PM.o.2).1.mono (T:=fun j=>b<=j) (fun j _ e=>HR.o.lo j e));have HH:=zhd hr;clear hr hh h5 h6 q;go_wp2_with fail;refine(FO.o _ K8.o).mono ?_;rintro e w9 ⟨fv,rfl,S,z,X⟩;obtain⟨fa,fc,rfl⟩:=S.slice;have R9:=PM.o.1.ext X;have HF:=zh4 S z X R9;clear S z X R9;go_wp2_with fail;go_loopg [59] (fl.length) (fun gk v59 wr=>∃(i:Nat) (B:KSt) (d:KV),v59= .int .i64 i/\i<=fl.length/\gk=fl.length - i/\KX wr b (.slice (some ⟨g,E,none⟩) n cc) d B/\ybW n h (fl.drop i) B=r/\KK b ⟨.slice (some ⟨Q,L,none⟩) st.heights.length hc,.slice ta st.todo.length tc⟩ w9 d wr/\B.heights.length=n/\B.todo.length<=st.todo.length+i)
   case atStart=>exact⟨0,_,_,rfl,znq _,rfl,HF.o.2.2.2,HH.o,KK.refl _ _ _,HB.o.1,znc _⟩
   case round=>
    obtain⟨i,B,d,rfl,hi,P,hR,H,hK,N,u⟩:=hrel;by_cases hin:i<fl.length
    .obtain⟨y,m⟩:=yac hin
     have Ab:fl.drop i=y::fl.drop (i+1):=by
      rw[znr (zge m).1,(zge m).2]
     rw[Ab,ybW]at H;have RF:=KK.row hK HF.o.1 (fun j hj e=>by have:=HF.o.2.1 j hj;have:=PM.o.1.lt e;omega);obtain⟨fg,Ah,rfl,Aq⟩:=RF.addr m;have z0:=yd9 RF m;have Ag:(i:Int)<fl.length:=by omega
     have CO:=zhd (yis b _ n cc d B y h wr hR N (by have:=HB.o.2.1;omega) _ rfl);have Ac:=ygk n y h B;generalize comeL n y h B=cq at*;have G:=zh6 H P hK Ac N u;clear H P hK Ac Ab m RF hR N u;go_wp2_with fail;refine CO.o.mono ?_;rintro e Ai ⟨v5,rfl,H5⟩;cases hz:(cq.1 !=0)with
     |true=>
      have hr:=G.o.1;rw[hz]at hr;simp only[znm]at hr;subst hr;go_wp2;go_ret;exact⟨v5,rfl,zhd ⟨H5.o.1,(KK.ext J.o.1).trans (PM.o.2.trans ((KK.ext HF.o.2.2.1).trans (G.o.2.2.1.trans H5.o.2)))⟩⟩
     |false=>
      have hr:=G.o.1;rw[hz]at hr;simp only[znl]at hr;have Af:=zhd hr;clear hr;go_wp2_with fail;go_roundg (fl.length - (i+1))
      case measure=>have:=G.o.2.1;omega
      case rel=>exact⟨i+1,cq.2,v5,by simp,by omega,rfl,H5.o.1,Af.o,G.o.2.2.1.trans H5.o.2,by rw[G.o.2.2.2.1.1];exact G.o.2.2.2.2.1,by have:=G.o.2.2.2.1.2;have:=G.o.2.2.2.2.2;omega⟩
    .obtain rfl:i=fl.length:=by omega
     rw[zns (znc _),ybW]at H;have G:=zh2 hR hK;subst H;clear hR hK P;go_wp2;go_ret;exact⟨d,rfl,zhd ⟨G.o.1,(KK.ext J.o.1).trans (PM.o.2.trans ((KK.ext HF.o.2.2.1).trans G.o.2))⟩⟩
def yoQ (W:World)(b:Nat)(cv:Value)(q:(Int×Int)×KSt)(e:Ending)(w':World):Prop:=∃v',e= .returned (.agg #[.int .i64 q.1.1,.int .i64 q.1.2])/\Hid (KX w' b cv v' q.2/\KK b ⟨.slice none 0 0,.slice none 0 0⟩ W v' w')
theorem yks (b:Nat)(F:Nat->Prop)(hF:∀j,F j->j<b)(ca:Option Addr)(n cc:Nat)(code:List In)(W:World)(R:KX W b (.slice ca n cc) ⟨.slice none 0 0,.slice none 0 0⟩ ⟨[],[],0⟩)(HC:RdF F W (.slice ca n cc) code)(OK:CodeOk code)(q:(Int×Int)×KSt)(hq:walkL code=q):
  Calls Tryz.prog 95 #[.pointer (some ⟨b,0,none⟩)] W (yoQ W b (.slice ca n cc) q):=by
 have H:=HC.elems.1;have b0:=zlt R.h;have q0:=zca R.h 0 rfl;have z:=zh4 HC OK hq hF;have hn:=OK.len;rw[<-H]at hn;have Q:=zh2 R H;clear R HC OK hq H;go_in;go_wp2_with fail;obtain⟨u,N⟩:∃u,u=W.alloc (.cells #[.int .i64 0,.int .i64 0] 112):=⟨_,rfl⟩;have B1:=zba N;have f1:=zha N;rw[<-N];have T:=zh3 B1 f1 (Q.o.1.ext B1);clear N B1 f1;go_loopg [11] n (fun gk v11 wr=>∃(i:Nat) (t:Value),v11= .int .i64 i/\i<=n/\gk=n - i/\KX wr b (.slice ca n cc) ⟨t,.slice none 0 0⟩ ⟨List.replicate i (-1),[],0⟩/\KK b ⟨.slice none 0 0,.slice none 0 0⟩ u ⟨t,.slice none 0 0⟩ wr)
 case atStart=>exact⟨0,_,rfl,znq _,rfl,T.o.2.2,KK.refl _ _ _⟩
 case round=>
  obtain⟨i,t,rfl,hi,Z,C,K⟩:=hrel;by_cases hin:i<n
  .have Ao:(i:Int)<n:=by omega
   obtain⟨ha,s,he⟩:=C.heights.slice;rw[List.length_replicate]at he;dsimp only at he;subst he;have b1:=zlt C.h;have q1:=zca C.h 1 rfl;have f0:∀o,wr.frozen? ⟨b,o,none⟩=false:=fun o=>zfr C.h o;have G:=zh3 Z C K;clear Z C K;go_wp2_with (at_builtin;go_must (refine ybG (α:=Int) yoo rfl (.tmp 17) (.tmp 18) rfl (G.o.2.1.heights.alloc _) (-1) rfl rfl (znb _ _) (by simp;omega) (by simp;unfold maxLen;omega) ?_);intro a1 q1 w1 U X l;rw[List.length_replicate]at U;simp only[List.length_replicate]at l;have M:=(X.block b (by simp;omega) (fun e=>G.o.2.1.sh b e rfl)).trans ((zne _ _ _ b1).trans G.o.2.1.h);have c2:w1.cell? ⟨b,1,none⟩=some (.slice ha i s):=by{rw[zch M];rfl};have f1:∀o,w1.frozen? ⟨b,o,none⟩=false:=fun o=>zfr M o;have b1:b<w1:=zlt M;have HF:=zh3 U X l;clear M U X l);have S:=zhd ((G.o.2.1.ext ((znv _ _).alloc (znc _) (.cells #[.int .i64 (-1)] 3))).setH HF.o.1 HF.o.2.1 HF.o.2.2);go_roundg (n - (i+1))
   case measure=>have:=G.o.1;omega
   case rel=>exact⟨i+1,_,by simp,by omega,rfl,by have:=S.o.1;rwa[show List.replicate i (-1:Int)++[-1]=List.replicate (i+1) (-1)from(List.replicate_succ' ..).symm]at this,G.o.2.2.trans ((KK.ext (zal)).trans S.o.2)⟩
  .obtain rfl:i=n:=by omega
   have H:=Q.o.2;subst H;have CO:=zhd (yis b ca code.length cc ⟨t,.slice none 0 0⟩ _ 0 0 wr C (by simp) (by simp) _ rfl);have D:=yeB (n:=code.length) (f:=code.length) (k:=0) (h:=0) (st:=⟨List.replicate code.length (-1),[],0⟩) ⟨by simp,(fun x m=>by rw[(List.mem_replicate.1 m).2];omega),(fun k hk=>by cases hk),(by rw[yb2];simp),Int.le_refl 0,(by show(0:Int)<=32;decide)⟩ (by decide) (by decide);have hq:=z.o.2.2.1;unfold walkL at hq;dsimp only at hq;generalize comeL code.length 0 0 ⟨List.replicate code.length (-1),[],0⟩=cq at*;have G:=zh3 K D hq;clear Z C K D hq;go_wp2_with fail;refine(show Calls _ _ #[_,.int .i64 0,_] _ _ from CO.o).mono ?_;rintro e w5 ⟨v5,rfl,H5⟩;have K5:=G.o.1.trans H5.o.2;have lW:=zlt T.o.2.1;have A:=(K5.1.block W lW (fun e=>by have:=Q.o.1.lt e;omega)).trans T.o.2.1;have z0:=zfr A 0;have z1:=zfr A 1;have q1:=zca A 0 rfl;have q2:=zca A 1 rfl;have l5:=zlt A;have Ab:=zhd K5;clear A K5;have HE:=zhd (fun(p:(Int×Int)×KSt) (vz:KV) (wz:World) (hz:KX wz b (.slice ca code.length cc) vz p.2) (kz:KK b ⟨.slice none 0 0,.slice none 0 0⟩ u vz wz) (x y:Value)=>
    (show KX ((wz.setCell ⟨W,0,none⟩ x).setCell ⟨W,1,none⟩ y) b (.slice ca code.length cc) vz p.2/\KK b ⟨.slice none 0 0,.slice none 0 0⟩ W vz ((wz.setCell ⟨W,0,none⟩ x).setCell ⟨W,1,none⟩ y)from by
      have V:∀j,j=W.heap.size->¬KO vz b j:=fun j hj e=>by
       rcases kz.2 j e with h|h
       .have:=Q.o.1.lt h
        omega
       .have:=zlt T.o.2.1
        omega
      have k1:Keeps (fun j=>j=W) wz ((wz.setCell ⟨W,0,none⟩ x).setCell ⟨W,1,none⟩ y):=Keeps.setCell (S:=fun j=>j=W) (p:=⟨W,1,none⟩) (Keeps.setCell (S:=fun j=>j=W) (p:=⟨W,0,none⟩) (Keeps.refl _ _) (.inl rfl) x) (.inl rfl) y;have hh:=(KK.ext (b:=b) (v:=⟨.slice none 0 0,.slice none 0 0⟩) T.o.1).trans kz;refine⟨⟨(k1.block b (zlt hz.h) (fun e=>V b e (.inl rfl))).trans hz.h,hz.heights.keep k1 (fun g hg e=>V g e (.inr (.inl hg))),hz.todo.keep k1 (fun g hg e=>V g e (.inr (.inr hg))),hz.sh,hz.sd,hz.lo⟩,hh.1.trans k1 (fun j hj e=>by omega),hh.2⟩))
   cases hz:(cq.1 !=0)with
   |true=>
    have B:=G.o.2.2;rw[hz]at B;simp only[znm]at B;subst B;go_wp2_with fail;exact zng (v:=.agg #[.int .i64 0,.int .i64 cq.1]) (by simp only[results,Tryz.results95];go_simp) rfl ⟨v5,rfl,zhd (HE.o ((0,cq.1),cq.2) v5 _ H5.o.1 Ab.o _ _)⟩
   |false=>
    have B:=G.o.2.2;rw[hz]at B;simp only[znl]at B;have Al:=zhd B;clear B;go_wp2_with fail;go_loopg [] (code.length+1) (fun gk wr=>∃(st:KSt) (v:KV),KX wr b (.slice ca code.length cc) v st/\KK b ⟨.slice none 0 0,.slice none 0 0⟩ u v wr/\Inv code.length gk st/\yiy code gk st=q/\gk<=code.length+1)
    case atStart=>
     have I:=G.o.2.1;exact⟨cq.2,v5,H5.o.1,Ab.o,⟨I.len,I.all,I.todo,by have:=I.less;omega,I.m0,I.m1⟩,Al.o,znc _⟩
    case round=>
     obtain⟨st,v,C,K,D,L,d⟩:=hrel;obtain⟨t,vt⟩:=v;obtain⟨ta,tc,rfl⟩:∃a cap,vt= .slice a st.todo.length cap:=C.todo.slice;have b1:=zlt C.h;have Ae:wr.cell? ⟨b,2,none⟩=some (.slice ta st.todo.length tc):=by rw[zch C.h];rfl
     have f0:∀o,wr.frozen? ⟨b,o,none⟩=false:=fun o=>zfr C.h o;cases hto:st.todo with
     |nil=>
      have e0:st.todo.length=0:=by rw[hto];rfl
      rw[e0]at Ae;have hq:((-1,0),st)=q:=by
       cases gk with
       |zero=>exact L
       |succ f=>rw[yiy,hto]at L;exact L
      subst hq;have A:=(K.1.block W lW (fun e=>by have:=Q.o.1.lt e;omega)).trans T.o.2.1;have Ad:=zfr A 0;have Ac:=zfr A 1;have q3:=zca A 0 rfl;have q4:=zca A 1 rfl;have l5:=zlt A;have P:=zh2 C K;clear A C K D L hto d;go_wp2_with fail;exact zng (v:=.agg #[.int .i64 (-1),.int .i64 0]) (by simp only[results,Tryz.results95];go_simp) rfl ⟨_,rfl,zhd (HE.o ((-1,0),st) _ _ P.o.1 P.o.2 _ _)⟩
     |cons k r=>
      obtain⟨f,rfl⟩:∃f,gk=f+1:=⟨gk - 1,by have:=D.less;rw[hto]at this;simp at this;omega⟩;rw[yiy,hto]at L;dsimp only at L;have Y:st.todo[0]? =some k:=by rw[hto];rfl
      obtain⟨x,m,Af⟩:=D.todo k (by rw[hto];exact zmf ..);have Ah:k<code.length:=by have:=(zge m).1;have:=D.len;omega
      obtain⟨c,s⟩:=yac Ah;rw[s]at L;dsimp only at L;have J:=zmg s;have RT:RowAt wr 3 (.slice ta st.todo.length tc) st.todo:=C.todo;obtain⟨tg,Am,rfl,Ap⟩:=RT.addr Y;have t0:=yd9 RT Y;rw[Nat.add_zero]at t0;have O:st.todo.length=r.length+1:=by rw[hto];rfl
      obtain⟨Ai,cR,rT,oT⟩:=yez ykQ RT (k:=1) (by omega);rw[show((1:Nat):Int)=1 from rfl]at cR;rw[show st.todo.drop 1=r from by rw[hto];rfl]at rT;have An:(0:Int)<st.todo.length:=by omega
      have ST:=zhd (C.setT (w1:=wr) (v1:=.slice Ai (st.todo.length - 1) (tc - 1)) (l1:=r) rT (Keeps.refl _ _) (fun g hg=>.inl (oT g hg)));have KS2:=(KK.ext (b:=b) (v:=⟨.slice none 0 0,.slice none 0 0⟩) T.o.1).trans (K.trans ST.o.2);have I2:Inv code.length f {st with todo:=r}:=⟨D.len,D.all,(fun j hj=>D.todo j (by rw[hto];exact zme _ hj)),(by have:=D.less;rw[O]at this;show yjd st.heights+r.length<=f;omega),D.m0,D.m1⟩;have E:=z.o.2.1;have Ag:=Q.o.2;have Aj:=zhd (ylp b F z.o.2.2.2 ca code.length cc code _ {st with todo:=r} k c _ ST.o.1 (z.o.1.keep KS2.1 (fun j hj e=>by have:=z.o.2.2.2 j hj;have:=Q.o.1.lo j e;omega)) s D.len (by have:=I2.less;have:=E.len;have:=D.less;have:=G.o.2.1.less;show r.length<=65530;omega) (by have:=E.len;omega) (E.a0 c J) (E.tk c J) (E.o c J) x m (D.all x (zmg m)) _ rfl);have I3:=yfN (k:=k) (c:=c) I2 (E.o c J).1;generalize stepL code.length c k {st with todo:=r}=sq at*;have P:=zh4 L I3 (K.trans ST.o.2) d;clear L I2 I3 D K KS2 rT oT RT E m Af Y hto s J Ag O d;go_wp2_with fail;refine Aj.o.mono ?_;rintro e w7 ⟨v7,rfl,H7⟩
      have K7:=P.o.2.2.1.trans H7.o.2;have A:=(K7.1.block W lW (fun e=>by have:=Q.o.1.lt e;omega)).trans T.o.2.1;have Ad:=zfr A 0;have Ac:=zfr A 1;have q3:=zca A 0 rfl;have q4:=zca A 1 rfl;have l5:=zlt A;have Aa:=zhd K7;clear A K7;cases hz2:(sq.1 !=0)with
      |true=>
       have B:=P.o.1;rw[hz2]at B;simp only[znm]at B;subst B;go_wp2_with fail;exact zng (v:=.agg #[k,.int .i64 sq.1]) (by simp only[results,Tryz.results95];go_simp) rfl ⟨v7,rfl,zhd (HE.o ((k,sq.1),sq.2) v7 _ H7.o.1 Aa.o _ _)⟩
      |false=>
       have B:=P.o.1;rw[hz2]at B;simp only[znl]at B;have Ak:=zhd B;clear B;go_wp2_with fail;go_roundg f
       case measure=>omega
       case rel=>exact⟨sq.2,v7,H7.o.1,Aa.o,P.o.2.1,Ak.o,by have:=P.o.2.2.2;omega⟩
end Go.Proofs.YtpagmlndgblhhaaGreatDoor
