/- Parts of the proof: what the functions and the plain laws give that later parts lean on. Conditions: none beyond those that each theorem names. -/
import Derived.Shelf.Strings.BuilderK
import Derived.Test.YtpagmlndgblhhaaGreatDoorR4
set_option maxRecDepth 100000
set_option maxHeartbeats 8000000
namespace Go.Va
open Go.Own Go.RowKit
structure In where
 op:Int
 a:Int
instance:Cells In where
 sz:=2
 enc:=fun c=>[.int .i64 c.op,.int .i64 c.a]
 len:=fun _=>rfl
 one:=by
  intro x v hv;simp at hv;rcases hv with rfl|rfl<;>rfl
instance:Cells ByteArray where
 sz:=1
 enc:=fun s=>[.string s]
 len:=fun _=>rfl
 one:=by
  intro x v hv;simp at hv;subst hv;rfl
structure Jp where
 at_:Int
 line:Int
 label:ByteArray
instance:Cells Jp where
 sz:=3
 enc:=fun j=>[.int .i64 j.at_,.int .i64 j.line,.string j.label]
 len:=fun _=>rfl
 one:=by
  intro x v hv;simp at hv;rcases hv with rfl|rfl|rfl<;>rfl
def SM:MapTy ByteArray Int:=⟨fun s=>.string s,fun n=>.int .i64 n,fun a b h=>by simpa using h⟩
structure RV where
 vc:Value
 vk:Value
 vn:Value
 vj:Value
 pl:Int
 mb:Option Nat
structure RSt where
 code:List In
 consts:List Val
 names:List ByteArray
 places:Int
 labels:List (ByteArray×Int)
 jumps:List Jp
def RO (v:RV)(b j:Nat):Prop:=j=b∨v.mb=some j∨v.vc.ownBlock=some j∨v.vk.ownBlock=some j∨v.vn.ownBlock=some j∨v.vj.ownBlock=some j
structure Sep (v:RV)(b:Nat):Prop where
 m:∀j,v.mb=some j→j≠b
 c:∀j,v.vc.ownBlock=some j→j≠b∧v.mb≠some j
 k:∀j,v.vk.ownBlock=some j→j≠b∧v.mb≠some j∧v.vc.ownBlock≠some j
 n:∀j,v.vn.ownBlock=some j→j≠b∧v.mb≠some j∧v.vc.ownBlock≠some j∧v.vk.ownBlock≠some j
 j:∀j,v.vj.ownBlock=some j→j≠b∧v.mb≠some j∧v.vc.ownBlock≠some j∧v.vk.ownBlock≠some j∧v.vn.ownBlock≠some j
structure RS (W:World)(tr ti tv ts tj:TypeId)(Z:Nat→Prop)(b:Nat)(v:RV)(st:RSt):Prop where
 h:W.heap[b]? =some (.cells #[v.vc,v.vk,v.vn,.int .i64 v.pl,.map v.mb,v.vj] tr (0,0))
 code:RowAt W ti v.vc st.code
 consts:VRow (fun j=>¬RO v b j∧Z j) W tv v.vk st.consts
 names:RowAt W ts v.vn st.names
 jumps:RowAt W tj v.vj st.jumps
 pl:v.pl=st.places
 labels:∀m,v.mb=some m→MapAt SM W m st.labels
 sep:Sep v b
def RK (b:Nat)(v:RV)(W:World)(v':RV)(W':World):Prop:=Keeps (RO v b) W W'∧(∀j,RO v' b j→RO v b j∨W.heap.size≤j)∧v'.mb=v.mb
theorem RK.refl (b:Nat)(v:RV)(W:World):RK b v W v W:=⟨Keeps.refl _ _,fun _ h=>.inl h,rfl⟩
theorem RK.trans {b:Nat}{v v' v'':RV}{W W' W'':World}(h:RK b v W v' W')(k:RK b v' W' v'' W''):RK b v W v'' W'':=by
 refine⟨h.1.trans k.1 (fun j hj e=>(h.2.1 j e).resolve_right (by omega)),fun j hj=> ?_,k.2.2.trans h.2.2⟩;rcases k.2.1 j hj with h1|h1
 ·exact h.2.1 j h1
 ·exact .inr (znf h.1.size h1)
theorem RK.ext {b:Nat}{v:RV}{W W':World}(K:Below W.heap.size W W'):RK b v W v W':=⟨(zkb (S:=fun _=>False) K).mono (fun _ _ f=>f.elim),fun _ h=>.inl h,rfl⟩
section
variable{W W':World} {tr ti tv ts tj:TypeId} {Z Z':Nat→Prop} {b:Nat} {v:RV} {st:RSt}
theorem RS.lt (R:RS W tr ti tv ts tj Z b v st){j:Nat}(h:RO v b j):j<W.heap.size:=by
 rcases h with rfl|h|h|h|h|h
 ·exact zlt R.h
 ·exact(R.labels j h).lt
 ·exact R.code.lt h
 ·obtain⟨cs,h1,_⟩:=R.consts
  exact h1.lt h
 ·exact R.names.lt h
 ·exact R.jumps.lt h
theorem RS.far {S:Nat→Prop}(R:RS W tr ti tv ts tj Z b v st)(K:Keeps S W W')(h1:∀j,S j→¬RO v b j)(h2:∀j,S j→¬Z j):RS W' tr ti tv ts tj Z b v st:=
 ⟨(K.block b (zlt R.h) (fun s=>h1 b s (.inl rfl))).trans R.h,R.code.keep K (fun g hg s=>h1 g s (.inr (.inr (.inl hg)))),R.consts.keep K (fun g h s=>h2 g s h.2) (fun g hg s=>h1 g s (.inr (.inr (.inr (.inl hg))))),R.names.keep K (fun g hg s=>h1 g s (.inr (.inr (.inr (.inr (.inl hg)))))),R.jumps.keep K (fun g hg s=>h1 g s (.inr (.inr (.inr (.inr (.inr hg)))))),R.pl,fun m hm=>(R.labels m hm).keep K (fun s=>h1 m s (.inr (.inl hm))),R.sep⟩
theorem RS.monoZ (R:RS W tr ti tv ts tj Z b v st)(h:∀j,Z j→j<W.heap.size→Z' j):RS W tr ti tv ts tj Z' b v st:=
 ⟨R.h,R.code,R.consts.mono (fun j hj hl=>⟨hj.1,h j hj.2 hl⟩),R.names,R.jumps,R.pl,R.labels,R.sep⟩
theorem RS.ext (R:RS W tr ti tv ts tj Z b v st)(K:Below W.heap.size W W'):RS W' tr ti tv ts tj Z b v st:=
 have K0:Keeps (fun _=>False) W W':=zkb K
 ⟨(K.block b (zlt R.h)).trans R.h,R.code.keep K0 (fun _ _ f=>f),R.consts.keep K0 (fun _ _ f=>f) (fun _ _ f=>f),R.names.keep K0 (fun _ _ f=>f),R.jumps.keep K0 (fun _ _ f=>f),R.pl,fun m hm=>(R.labels m hm).keep K0 (fun f=>f),R.sep⟩
theorem RS.setCode (R:RS W tr ti tv ts tj Z b v st){w1:World}{v1:Value}{l1:List In}(hr:RowAt w1 ti v1 l1)(K:Keeps (fun j=>v.vc.ownBlock=some j) W w1)(hf:∀g,v1.ownBlock=some g→v.vc.ownBlock=some g∨W.heap.size≤g):
  RS (w1.setCell ⟨b,0,none⟩ v1) tr ti tv ts tj Z b {v with vc:=v1} {st with code:=l1}∧RK b v W {v with vc:=v1} (w1.setCell ⟨b,0,none⟩ v1):=by
 have hbn:v.vc.ownBlock≠some b:=fun e=>(R.sep.c b e).1 rfl;have hb:w1.heap[b]? =some (.cells #[v.vc,v.vk,v.vn,.int .i64 v.pl,.map v.mb,v.vj] tr (0,0)):=(K.block b (zlt R.h) hbn).trans R.h;have KB:Keeps (fun j=>j=b) w1 (w1.setCell ⟨b,0,none⟩ v1):=Keeps.setCell (S:=fun j=>j=b) (p:=⟨b,0,none⟩) (Keeps.refl _ _) (.inl rfl) _;have K2:Keeps (fun j=>j=b∨v.vc.ownBlock=some j) W (w1.setCell ⟨b,0,none⟩ v1):=(K.mono (fun _ _ e=>.inr e)).trans KB (fun _ _ e=>.inl e);have hn:∀j,v1.ownBlock=some j→j≠b∧v.mb≠some j∧v.vk.ownBlock≠some j∧v.vn.ownBlock≠some j∧v.vj.ownBlock≠some j:=fun j hj=>by
  rcases hf j hj with h|h
  ·exact⟨(R.sep.c j h).1,(R.sep.c j h).2,fun e=>(R.sep.k j e).2.2 h,fun e=>(R.sep.n j e).2.2.1 h,fun e=>(R.sep.j j e).2.2.1 h⟩
  ·exact⟨(fun e=>by have:=R.lt (j:=j) (.inl e);omega),(fun e=>by have:=R.lt (j:=j) (.inr (.inl e));omega),(fun e=>by have:=R.lt (j:=j) (.inr (.inr (.inr (.inl e))));omega),(fun e=>by have:=R.lt (j:=j) (.inr (.inr (.inr (.inr (.inl e)))));omega),(fun e=>by have:=R.lt (j:=j) (.inr (.inr (.inr (.inr (.inr e)))));omega)⟩
 have hlt:∀j,RO v b j→j<W.heap.size:=fun j=>R.lt;have hk2:VRow (fun j=>¬RO {v with vc:=v1} b j∧Z j) (w1.setCell ⟨b,0,none⟩ v1) tv v.vk st.consts:=by
  refine((R.consts.mono (G:=fun j=>(¬RO v b j∧Z j)∧¬v1.ownBlock=some j) (fun j h l=>⟨h,fun e=>(hf j e).elim (fun h1=>h.1 (.inr (.inr (.inl h1)))) (fun h1=>by omega)⟩)).keep K2 (fun g h e=>h.1.1 (e.elim .inl (fun e=>.inr (.inr (.inl e))))) (fun g hg e=>e.elim (R.sep.k g hg).1 (fun e=>(R.sep.k g hg).2.2 e))).mono (fun j h _=>⟨fun e=> ?_,h.1.2⟩);rcases e with e|e|e|e|e|e
  ·exact h.1.1 (.inl e)
  ·exact h.1.1 (.inr (.inl e))
  ·exact h.2 e
  ·exact h.1.1 (.inr (.inr (.inr (.inl e))))
  ·exact h.1.1 (.inr (.inr (.inr (.inr (.inl e)))))
  ·exact h.1.1 (.inr (.inr (.inr (.inr (.inr e)))))
 refine⟨⟨by simp[World.setCell,zni,hb],hr.keep KB (fun g hg=>(hn g hg).1),hk2,R.names.keep K2 (fun g hg e=>e.elim (R.sep.n g hg).1 (fun e=>(R.sep.n g hg).2.2.1 e)),R.jumps.keep K2 (fun g hg e=>e.elim (R.sep.j g hg).1 (fun e=>(R.sep.j g hg).2.2.1 e)),R.pl,fun m hm=>(R.labels m hm).keep K2 (fun e=>e.elim (R.sep.m m hm) (fun e=>(R.sep.c m e).2 hm)),⟨R.sep.m,fun j hj=>⟨(hn j hj).1,(hn j hj).2.1⟩,fun j hj=>⟨(R.sep.k j hj).1,(R.sep.k j hj).2.1,fun e=>(hn j e).2.2.1 hj⟩,fun j hj=>⟨(R.sep.n j hj).1,(R.sep.n j hj).2.1,fun e=>(hn j e).2.2.2.1 hj,(R.sep.n j hj).2.2.2⟩,fun j hj=>⟨(R.sep.j j hj).1,(R.sep.j j hj).2.1,fun e=>(hn j e).2.2.2.2 hj,(R.sep.j j hj).2.2.2.1,(R.sep.j j hj).2.2.2.2⟩⟩⟩,K2.mono (fun j _ e=>e.elim .inl (fun e=>.inr (.inr (.inl e)))),fun j hj=> ?_,rfl⟩;rcases hj with e|e|e|e|e|e
 ·exact .inl (.inl e)
 ·exact .inl (.inr (.inl e))
 ·exact(hf j e).elim (fun h1=>.inl (.inr (.inr (.inl h1)))) .inr
 ·exact .inl (.inr (.inr (.inr (.inl e))))
 ·exact .inl (.inr (.inr (.inr (.inr (.inl e)))))
 ·exact .inl (.inr (.inr (.inr (.inr (.inr e)))))
theorem RS.setConsts (R:RS W tr ti tv ts tj Z b v st){w1:World}{v1:Value}{l1:List Val}(hr:VRow (fun j=>(¬RO v b j∧Z j)∧¬v1.ownBlock=some j) w1 tv v1 l1)(K:Keeps (fun j=>v.vk.ownBlock=some j) W w1)(hf:∀g,v1.ownBlock=some g→v.vk.ownBlock=some g∨W.heap.size≤g):
  RS (w1.setCell ⟨b,1,none⟩ v1) tr ti tv ts tj Z b {v with vk:=v1} {st with consts:=l1}∧RK b v W {v with vk:=v1} (w1.setCell ⟨b,1,none⟩ v1):=by
 have hbn:v.vk.ownBlock≠some b:=fun e=>(R.sep.k b e).1 rfl;have hb:w1.heap[b]? =some (.cells #[v.vc,v.vk,v.vn,.int .i64 v.pl,.map v.mb,v.vj] tr (0,0)):=(K.block b (zlt R.h) hbn).trans R.h;have KB:Keeps (fun j=>j=b) w1 (w1.setCell ⟨b,1,none⟩ v1):=Keeps.setCell (S:=fun j=>j=b) (p:=⟨b,1,none⟩) (Keeps.refl _ _) (.inl rfl) _;have K2:Keeps (fun j=>j=b∨v.vk.ownBlock=some j) W (w1.setCell ⟨b,1,none⟩ v1):=(K.mono (fun _ _ e=>.inr e)).trans KB (fun _ _ e=>.inl e);have hn:∀j,v1.ownBlock=some j→j≠b∧v.mb≠some j∧v.vc.ownBlock≠some j∧v.vn.ownBlock≠some j∧v.vj.ownBlock≠some j:=fun j hj=>by
  rcases hf j hj with h|h
  ·exact⟨(R.sep.k j h).1,(R.sep.k j h).2.1,(R.sep.k j h).2.2,fun e=>(R.sep.n j e).2.2.2 h,fun e=>(R.sep.j j e).2.2.2.1 h⟩
  ·exact⟨(fun e=>by have:=R.lt (j:=j) (.inl e);omega),(fun e=>by have:=R.lt (j:=j) (.inr (.inl e));omega),(fun e=>by have:=R.lt (j:=j) (.inr (.inr (.inl e)));omega),(fun e=>by have:=R.lt (j:=j) (.inr (.inr (.inr (.inr (.inl e)))));omega),(fun e=>by have:=R.lt (j:=j) (.inr (.inr (.inr (.inr (.inr e)))));omega)⟩
 have hlt:∀j,RO v b j→j<W.heap.size:=fun j=>R.lt;have hr2:VRow (fun j=>¬RO {v with vk:=v1} b j∧Z j) (w1.setCell ⟨b,1,none⟩ v1) tv v1 l1:=by
  refine(hr.keep KB (fun g h e=>h.1.1 (.inl e)) (fun g hg=>(hn g hg).1)).mono (fun j h _=>⟨fun e=> ?_,h.1.2⟩);rcases e with e|e|e|e|e|e
  ·exact h.1.1 (.inl e)
  ·exact h.1.1 (.inr (.inl e))
  ·exact h.1.1 (.inr (.inr (.inl e)))
  ·exact h.2 e
  ·exact h.1.1 (.inr (.inr (.inr (.inr (.inl e)))))
  ·exact h.1.1 (.inr (.inr (.inr (.inr (.inr e)))))
 refine⟨⟨by simp[World.setCell,zni,hb],R.code.keep K2 (fun g hg e=>e.elim (R.sep.c g hg).1 (fun e=>(R.sep.k g e).2.2 hg)),hr2,R.names.keep K2 (fun g hg e=>e.elim (R.sep.n g hg).1 (fun e=>(R.sep.n g hg).2.2.2 e)),R.jumps.keep K2 (fun g hg e=>e.elim (R.sep.j g hg).1 (fun e=>(R.sep.j g hg).2.2.2.1 e)),R.pl,fun m hm=>(R.labels m hm).keep K2 (fun e=>e.elim (R.sep.m m hm) (fun e=>(R.sep.k m e).2.1 hm)),⟨R.sep.m,R.sep.c,fun j hj=>⟨(hn j hj).1,(hn j hj).2.1,(hn j hj).2.2.1⟩,fun j hj=>⟨(R.sep.n j hj).1,(R.sep.n j hj).2.1,(R.sep.n j hj).2.2.1,fun e=>(hn j e).2.2.2.1 hj⟩,fun j hj=>⟨(R.sep.j j hj).1,(R.sep.j j hj).2.1,(R.sep.j j hj).2.2.1,fun e=>(hn j e).2.2.2.2 hj,(R.sep.j j hj).2.2.2.2⟩⟩⟩,K2.mono (fun j _ e=>e.elim .inl (fun e=>.inr (.inr (.inr (.inl e))))),fun j hj=> ?_,rfl⟩;rcases hj with e|e|e|e|e|e
 ·exact .inl (.inl e)
 ·exact .inl (.inr (.inl e))
 ·exact .inl (.inr (.inr (.inl e)))
 ·exact(hf j e).elim (fun h1=>.inl (.inr (.inr (.inr (.inl h1))))) .inr
 ·exact .inl (.inr (.inr (.inr (.inr (.inl e)))))
 ·exact .inl (.inr (.inr (.inr (.inr (.inr e)))))
end
def ymX (s:ByteArray):List ByteArray→Nat→Option Nat
 |[],_=>none
 |x::r,i=>bif s.data.toList==x.data.toList then some i else ymX s r (i+1)
def yny (s:ByteArray)(l:List ByteArray):Nat×List ByteArray:=
 match ymX s l 0 with
 |some i=>(i,l)
 |none=>(l.length,l++[s])
def yh5 (x:Val):List Val→Nat→Option Nat
 |[],_=>none
 |y::r,i=>bif cmpV x y==0 then some i else yh5 x r (i+1)
def yfh (x:Val)(l:List Val):Nat×List Val:=
 match yh5 x l 0 with
 |some i=>(i,l)
 |none=>(l.length,l++[x])
end Go.Va
namespace Go.Proofs.YtpagmlndgblhhaaGreatDoor
open Go.RowKit Go.Own Go.Own.MapTy Go.Va Go.Sort
open Go.Own.Cells (sz enc)
abbrev RX (Z:Nat→Prop)(W:World)(b:Nat)(v:RV)(st:RSt):Prop:=RS W 97 106 38 9 103 Z b v st
def yoB (Z:Nat→Prop)(W:World)(b:Nat)(v:RV)(r:Value)(st:RSt)(e:Ending)(w':World):Prop:=∃v',e= .returned r∧Hid (RX Z w' b v' st∧RK b v W v' w')
theorem yom:ElemOf ByteArray Tryz.prog 26 9 16:=yb0 Tryz.underlying26 (z:=.string .empty) (n:=1) (by kernel_rfl) rfl rfl
theorem yf6 {wr w1:World}{X:Obj}{ks:List VC}{z:VC}{a a1:Option Addr}{cap q1 n b B:Nat}{T:TypeId}(hn:ks.length=n)(hr:RowAt w1 T (.slice a1 (n+1) q1) (ks++[z]))(hk:Keeps (fun j=>(Value.slice a n cap).ownBlock=some j) (wr.drew.alloc X) w1)(hf:∀g,(Value.slice a1 (n+1) q1).ownBlock=some g→(Value.slice a n cap).ownBlock=some g∨(wr.drew.alloc X).heap.size≤g)
  (hb:b<wr.heap.size)(hB:B<wr.heap.size)(nb:∀g,(Value.slice a n cap).ownBlock=some g→g≠b∧g≠B):
  ∃g1 off1,a1=some ⟨g1,off1,none⟩∧(w1.cell? ⟨g1,off1+n*4,none⟩=some (.int .i64 z.kind)∧w1.cell? ⟨g1,off1+n*4+1,none⟩=some (.int .i64 z.n)∧w1.cell? ⟨g1,off1+n*4+2,none⟩=some (.string z.s)∧w1.cell? ⟨g1,off1+n*4+3,none⟩=some (.slice z.la z.ln z.lc))∧
   (∀o,w1.frozen? ⟨g1,o,none⟩=false)∧(∀o,w1.cell? ⟨b,o,none⟩=wr.cell? ⟨b,o,none⟩)∧(∀o,w1.frozen? ⟨b,o,none⟩=wr.frozen? ⟨b,o,none⟩)∧(∀o,w1.cell? ⟨B,o,none⟩=wr.cell? ⟨B,o,none⟩)∧(¬g1=b∧¬b=g1∧¬g1=B∧¬B=g1)∧g1<w1.heap.size∧b<w1.heap.size∧B<w1.heap.size:=by
 have hx:(ks++[z])[n]? =some z:=by rw[List.getElem?_append_right (by omega),hn];simp
 obtain⟨g1,off1,rfl,hg1⟩:=hr.addr hx;have sz:=hk.size;simp at sz;have ne:∀g,g<wr.heap.size→(∀g',(Value.slice a n cap).ownBlock=some g'→g'≠g)→g1≠g:=fun g hg h1 e=>by
  rcases hf g1 rfl with h|h
  ·exact h1 _ h e
  ·simp at h;omega
 have n1:=ne b hb (fun g' h=>(nb g' h).1);have n2:=ne B hB (fun g' h=>(nb g' h).2);have c:=fun(j:Nat) (hj:j<4)=>hr.cell hx (j:=j) hj;have h0:=c 0 (by decide);have h1:=c 1 (by decide);have h2:=c 2 (by decide);have h3:=c 3 (by decide);have old:∀g o,g<wr.heap.size→(∀g',(Value.slice a n cap).ownBlock=some g'→g'≠g)→w1.cell? ⟨g,o,none⟩=wr.cell? ⟨g,o,none⟩:=fun g o hg h=>by
  rw[hk.cell (p:=⟨g,o,none⟩) (by simp;omega) (fun e=>h g e rfl)];exact znt (w:=wr) (zne _ _ _ hg)
 have oldf:∀g o,g<wr.heap.size→(∀g',(Value.slice a n cap).ownBlock=some g'→g'≠g)→w1.frozen? ⟨g,o,none⟩=wr.frozen? ⟨g,o,none⟩:=fun g o hg h=>by
  rw[hk.frozen (p:=⟨g,o,none⟩) (by simp;omega) (fun e=>h g e rfl)];exact znu (w:=wr) (zne _ _ _ hg)
 refine⟨g1,off1,rfl,⟨h0,by rw[zmm];exact h1,by rw[zmm];exact h2,by rw[zmm];exact h3⟩,fun o=>hr.frozen o,fun o=>old b o hb (fun g' h=>(nb g' h).1),fun o=>oldf b o hb (fun g' h=>(nb g' h).1),fun o=>old B o hB (fun g' h=>(nb g' h).2),⟨n1,fun e=>n1 e.symm,n2,fun e=>n2 e.symm⟩,hg1,by omega,by omega⟩
theorem yaM {W:World}{g b o p:Nat}{x y:Value}(h:¬g=b):(W.setCell ⟨b,o,none⟩ x).setCell ⟨g,p,none⟩ y=(W.setCell ⟨g,p,none⟩ y).setCell ⟨b,o,none⟩ x:=by
 simp only[World.setCell]
 congr 1
 refine Array.ext_getElem? fun i=> ?_;simp only[zni];by_cases h1:b=i
 ·subst h1
  simp[h]
 ·by_cases h2:g=i
  ·subst h2
   simp[h1]
  ·simp[h1,h2]
theorem yib {Z:Nat→Prop}{wr w1:World}{b n a0 g1 off1 cp cap:Nat}{a:Option Addr}{v:RV}{st:RSt}{x:Val}{c z:VC}{ks:List VC}{X:Obj}(R:RX Z wr b v st)(hv:v.vk= .slice a n cap)(hn:ks.length=n)(hcl:ks.length=st.consts.length)(hce:∀(i:Nat) (c:VC) (x:Val),ks[i]? =some c→st.consts[i]? =some x→CF (fun j=>¬RO v b j∧Z j) wr c x)
  (C:CF (fun j=>¬RO v b j∧Z j) wr c x)(hr:RowAt w1 38 (.slice (some ⟨g1,off1,none⟩) (n+1) cp) (ks++[z]))(hk:Keeps (fun j=>(Value.slice a n cap).ownBlock=some j) (wr.drew.alloc X) w1)
  (hf:∀g,(Value.slice (some ⟨g1,off1,none⟩) (n+1) cp).ownBlock=some g→(Value.slice a n cap).ownBlock=some g∨(wr.drew.alloc X).heap.size≤g)(ha:a0=n):
  RX Z (((((w1.setCell ⟨g1,off1+a0*4,none⟩ (.int .i64 c.kind)).setCell ⟨g1,off1+a0*4+1,none⟩ (.int .i64 c.n)).setCell ⟨g1,off1+a0*4+2,none⟩ (.string c.s)).setCell ⟨g1,off1+a0*4+3,none⟩ (.slice c.la c.ln c.lc)).setCell ⟨b,1,none⟩ (.slice (some ⟨g1,off1,none⟩) (n+1) cp)) b {v with vk:=.slice (some ⟨g1,off1,none⟩) (n+1) cp} {st with consts:=st.consts++[x]}∧
  RK b v wr {v with vk:=.slice (some ⟨g1,off1,none⟩) (n+1) cp} (((((w1.setCell ⟨g1,off1+a0*4,none⟩ (.int .i64 c.kind)).setCell ⟨g1,off1+a0*4+1,none⟩ (.int .i64 c.n)).setCell ⟨g1,off1+a0*4+2,none⟩ (.string c.s)).setCell ⟨g1,off1+a0*4+3,none⟩ (.slice c.la c.ln c.lc)).setCell ⟨b,1,none⟩ (.slice (some ⟨g1,off1,none⟩) (n+1) cp)):=by
 subst ha;have B0:Below wr.heap.size wr (wr.drew.alloc X):=((znv _ _).drew).alloc (znc _) _;have K0:Keeps (fun _=>False) wr (wr.drew.alloc X):=zkb B0;have RA:=R.ext B0;have hs:=hr.set (i:=a0) (by simp;omega) c;have el:(ks++[z]).set a0 c=ks++[c]:=by
  rw[List.set_append_right _ _ (by omega),show a0 - ks.length=0 from by omega];rfl
 rw[el]at hs;have hs':RowAt ((((w1.setCell ⟨g1,off1+a0*4,none⟩ (.int .i64 c.kind)).setCell ⟨g1,off1+a0*4+1,none⟩ (.int .i64 c.n)).setCell ⟨g1,off1+a0*4+2,none⟩ (.string c.s)).setCell ⟨g1,off1+a0*4+3,none⟩ (.slice c.la c.ln c.lc)) 38 (.slice (some ⟨g1,off1,none⟩) (a0+1) cp) (ks++[c]):=hs;have kf:(fun j=>(Value.slice a a0 cap).ownBlock=some j)=(fun j=>v.vk.ownBlock=some j):=by rw[hv]
 have hf':∀g,(Value.slice (some ⟨g1,off1,none⟩) (a0+1) cp).ownBlock=some g→v.vk.ownBlock=some g∨(wr.drew.alloc X).heap.size≤g:=by rw[hv];exact hf
 have hg:(Value.slice a a0 cap).ownBlock=some g1∨(wr.drew.alloc X).heap.size≤g1:=hf g1 rfl;have K4:Keeps (fun j=>v.vk.ownBlock=some j) (wr.drew.alloc X) ((((w1.setCell ⟨g1,off1+a0*4,none⟩ (.int .i64 c.kind)).setCell ⟨g1,off1+a0*4+1,none⟩ (.int .i64 c.n)).setCell ⟨g1,off1+a0*4+2,none⟩ (.string c.s)).setCell ⟨g1,off1+a0*4+3,none⟩ (.slice c.la c.ln c.lc)):=by
  rw[kf]at hk;rw[hv]at hk⊢;exact(((hk.setCell (p:=⟨g1,off1+a0*4,none⟩) hg _).setCell (p:=⟨g1,off1+a0*4+1,none⟩) hg _).setCell (p:=⟨g1,off1+a0*4+2,none⟩) hg _).setCell (p:=⟨g1,off1+a0*4+3,none⟩) hg _
 have V:VRow (fun j=>(¬RO v b j∧Z j)∧¬(Value.slice (some ⟨g1,off1,none⟩) (a0+1) cp).ownBlock=some j) ((((w1.setCell ⟨g1,off1+a0*4,none⟩ (.int .i64 c.kind)).setCell ⟨g1,off1+a0*4+1,none⟩ (.int .i64 c.n)).setCell ⟨g1,off1+a0*4+2,none⟩ (.string c.s)).setCell ⟨g1,off1+a0*4+3,none⟩ (.slice c.la c.ln c.lc)) 38 (.slice (some ⟨g1,off1,none⟩) (a0+1) cp) (st.consts++[x]):=by
  refine VRow.app (F:=fun j=>(¬RO v b j∧Z j)∧j<wr.heap.size) (w:=wr.drew.alloc X) (v:=v.vk) hcl (fun i c x h1 h2=>((hce i c x h1 h2).mono (fun g h l=>⟨h,l⟩)).keep K0 (fun _ _ f=>f)) ((C.mono (fun g h l=>⟨h,l⟩)).keep K0 (fun _ _ f=>f)) hs' K4 (fun g h e=>h.1.1 (.inr (.inr (.inr (.inl e))))) (fun g h _=>⟨h.1,fun e=> ?_⟩);rcases hf' g e with h1|h1
  ·exact h.1.1 (.inr (.inr (.inr (.inl h1))))
  ·have:=h.2;simp at h1;omega
 have S:=RA.setConsts V K4 hf';exact⟨S.1,(RK.ext B0).trans S.2⟩
def ypi (W:World)(x:Val)(l:List Val)(gk:Nat)(v12:Value)(wr:World):Prop:=
 ∃i:Nat,v12= .int .i64 i∧i≤l.length∧gk=l.length - i∧yh5 x (l.drop i) i=yh5 x l 0∧Below W.heap.size W wr
theorem yic {Z:Nat→Prop}(b:Nat)(v:RV)(st:RSt)(x:Val)(ck cn:Int)(cs:ByteArray)(la:Option Addr)(ln lc:Nat)(W:World)(R:RX Z W b v st)(C:CF (fun j=>¬RO v b j∧Z j) W ⟨ck,cn,cs,la,ln,lc⟩ x)(hl:st.consts.length≤4294967296)(i0:Nat)(l':List Val)(hr:yfh x st.consts=(i0,l')):
  Calls Tryz.prog 129 #[.pointer (some ⟨b,0,none⟩),.agg #[.int .i64 ck,.int .i64 cn,.string cs,.slice la ln lc]] W (yoB Z W b v (.int .i64 i0) {st with consts:=l'}):=by
 obtain⟨vc,vk,vn,vj,pl,mb⟩:=v;obtain⟨a,cap,rfl⟩:∃a cap,vk= .slice a st.consts.length cap:=R.consts.slice;have b0:=zlt R.h;have c1:=zca R.h 1 rfl;have f0:∀o,W.frozen? ⟨b,o,none⟩=false:=fun o=>zfr R.h o;have el:=(R.consts.vf (G:=fun _=>True) (fun _ _=>trivial) (fun _ _=>trivial)).elems.2.2;unfold yfh at hr;have HR:=zh4 R hr el C;clear R hr el C;go_enter Tryz.func129,Tryz.ntmps129;go_wp2_with fail;obtain⟨w0,hw0⟩:∃w0,w0=W.alloc (.cells #[.int .i64 ck,.int .i64 cn,.string cs,.slice la ln lc] 38):=⟨_,rfl⟩;have B0:=zba hw0;have q:∀o,w0.cell? ⟨W.heap.size,o,none⟩=(#[.int .i64 ck,.int .i64 cn,.string cs,.slice la ln lc]:Array Value)[o]? :=fun o=>by rw[hw0,zch (znb _ _)]
 have sz0:w0.heap.size=W.heap.size+1:=by rw[hw0];simp
 rw[←hw0];have H0:=zh3 B0 q sz0;clear hw0 B0 q sz0 c1 f0;go_loopg [12] (st.consts.length) (fun gk v12 wr=>ypi w0 x st.consts gk v12 wr)
 case atStart=>exact⟨0,rfl,znq _,rfl,rfl,znv _ _⟩
 case round=>
  obtain⟨i,rfl,hi,hgk,hs,hB⟩:=hrel;have q0:=(hB.cell (p:=⟨W.heap.size,0,none⟩) (show W.heap.size<w0.heap.size by have:=H0.o.2.2;omega)).trans (H0.o.2.1 0);have q1:=(hB.cell (p:=⟨W.heap.size,1,none⟩) (show W.heap.size<w0.heap.size by have:=H0.o.2.2;omega)).trans (H0.o.2.1 1);have q2:=(hB.cell (p:=⟨W.heap.size,2,none⟩) (show W.heap.size<w0.heap.size by have:=H0.o.2.2;omega)).trans (H0.o.2.1 2);have q3:=(hB.cell (p:=⟨W.heap.size,3,none⟩) (show W.heap.size<w0.heap.size by have:=H0.o.2.2;omega)).trans (H0.o.2.1 3);simp only[zmc,zma,zmb]at q0 q1 q2 q3;have szr:=hB.size;have lr:W.heap.size<wr.heap.size:=by have:=H0.o.2.2;omega
  have BW:=H0.o.1.trans (hB.mono (show W.heap.size≤w0.heap.size by have:=H0.o.2.2;omega));by_cases hin:i<st.consts.length
  ·obtain⟨y,hy⟩:=yad hin
   have hdr:st.consts.drop i=y::st.consts.drop (i+1):=by
    rw[znr (zge hy).1,(zge hy).2]
   rw[hdr,yh5]at hs;obtain⟨g,off,ha,_,hg,hel⟩:=HR.o.2.2.1.resolve_left (fun e=>by rw[e]at hin;simp at hin);obtain⟨d,hD,m0,m1,m2,m3⟩:=hel i y hy;subst ha;have hgl:g<wr.heap.size:=by omega
   rw[←BW.cell (p:=⟨g,_,none⟩) hg]at m0 m1 m2 m3;have hin':(i:Int)<st.consts.length:=by omega
   have K1:Keeps (fun _=>False) W (wr.alloc (.cells #[.int .i64 d.kind,.int .i64 d.n,.string d.s,.slice d.la d.ln d.lc] 38)):=(zkb BW).alloc _;have SA:=zhd (fun bb hb=>yeW x y ⟨ck,cn,cs,la,ln,lc⟩ d _ _ _ (HR.o.2.2.2.keep K1 (fun _ _ f=>f)) (hD.keep K1 (fun _ _ f=>f)) bb hb);cases hq:(cmpV x y==0)
   all_goals
    rw[hq]at hs;simp only[znm,znl]at hs;have HX:=zh4 hs hgk hB BW;have SB:=zhd (SA.o _ hq);clear hs hgk hq hdr hy hB BW hel hD K1 SA;go_wp2_with fail;refine SB.o.mono ?_;rintro e w5 ⟨rfl,hB5⟩;have H5:=zhd (show Below wr.heap.size wr w5 from(zal).trans (hB5.mono (by simp)));clear hB5 SB;go_wp2_with fail
   ·go_roundg (st.consts.length - (i+1))
    case measure=>have:=HX.o.2.1;omega
    case rel=>exact⟨i+1,by simp,by omega,rfl,HX.o.1,HX.o.2.2.1.trans (H5.o.mono szr)⟩
   ·have hr:=HR.o.2.1
    rw[←HX.o.1]at hr;cases hr;have BE:=HX.o.2.2.2.trans (H5.o.mono (zmn lr));go_ret;exact⟨_,rfl,zhd ⟨HR.o.1.ext BE,RK.ext BE⟩⟩
  ·obtain rfl:i=st.consts.length:=by omega
   rw[zns (znc _),yh5]at hs;have hr:=HR.o.2.1;rw[←hs]at hr;cases hr;have HX:=zh3 (HR.o.1.ext BW) BW (HR.o.2.2.2.keep (zkb (S:=fun _=>False) BW) (fun _ _ f=>f));have c1:=zca HX.o.1.h 1 rfl;have f0:∀o,wr.frozen? ⟨b,o,none⟩=false:=fun o=>zfr HX.o.1.h o;have b1:b<wr.heap.size:=zlt HX.o.1.h;have HR0:=zhd (show∀g,(Value.slice a st.consts.length cap).ownBlock=some g→g<W.heap.size from fun g hg=>HR.o.1.lt (.inr (.inr (.inr (.inl hg)))));clear HR hs hgk hB BW;obtain⟨ks,hR,hcl,hce⟩:=HX.o.1.consts;have HK:=zh3 hR hcl hce;clear hR hcl hce;have nb:∀g,(Value.slice a st.consts.length cap).ownBlock=some g→g≠b∧g≠W.heap.size:=fun g hg=>⟨(HX.o.1.sep.k g hg).1,fun e=>by have:=HR0.o g hg;omega⟩;have hix:(st.consts.length:Int)<(st.consts.length:Int)+1:=by omega
   have hi0:(0:Int)≤(st.consts.length:Int):=by omega
   have NB:=zhd nb;have n6:¬W.heap.size=b:=by have:=zlt HX.o.1.h;have:=HX.o.2.1.size;omega
   have HBD:=zhd (show(ks.length+[(⟨0,0,⟨#[]⟩,none,0,0⟩:VC)].length)*56≤140737488355328∧ks.length+[(⟨0,0,⟨#[]⟩,none,0,0⟩:VC)].length≤maxLen∧ks.length+[(⟨0,0,⟨#[]⟩,none,0,0⟩:VC)].length=st.consts.length+1 from by have:=HK.o.2.1;unfold maxLen;simp;omega);clear nb;go_wp2_with fail;go_region_law ((refine yaA (α:=VC) (o:=⟨some 29,_,_,_,_,_⟩) yfc (by rfl) (.tmp 25) (.tmp 28) (by rfl) (v:=.slice a st.consts.length cap) (u:=.slice (some ⟨wr.heap.size,0,none⟩) 1 1) (by rfl) (by rfl) (xs:=ks) (ys:=[⟨0,0,⟨#[]⟩,none,0,0⟩]) ((HK.o.1.drew).alloc _) (RowAt.lit (α:=VC) (y:=⟨0,0,⟨#[]⟩,none,0,0⟩) (znb _ _)) HBD.o.1 HBD.o.2.1 (st.consts.length+1) HBD.o.2.2 ?_;intro a1 cp w1 hr1 hk1 hf1;obtain⟨g1,off1,rfl,⟨m0,m1,m2,m3⟩,fm,ob,obf,oB,⟨n1,n2,n3,n4⟩,l1,l2,l3⟩:=yf6 (b:=b) (B:=W.heap.size) HK.o.2.1 hr1 hk1 hf1 b1 lr NB.o;have y1:=(ob 1).trans c1;have y2:=(oB 0).trans q0;have y3:=(oB 1).trans q1;have y4:=(oB 2).trans q2;have y5:=(oB 3).trans q3;have y6:=fun o=>(obf o).trans (f0 o);have FF:=zh3 hr1 hk1 hf1;clear hr1 hk1 hf1 ob obf oB))
   all_goals
    obtain⟨w4,hw4⟩:∃w4,w4=((((w1.setCell ⟨g1,off1+st.consts.length*4,none⟩ (.int .i64 ck)).setCell ⟨g1,off1+st.consts.length*4+1,none⟩ (.int .i64 cn)).setCell ⟨g1,off1+st.consts.length*4+2,none⟩ (.string cs)).setCell ⟨g1,off1+st.consts.length*4+3,none⟩ (.slice la ln lc)).setCell ⟨b,1,none⟩ (.slice (some ⟨g1,off1,none⟩) (st.consts.length+1) cp):=⟨_,rfl⟩;have hw5:w4=((((w1.setCell ⟨b,1,none⟩ (.slice (some ⟨g1,off1,none⟩) (st.consts.length+1) cp)).setCell ⟨g1,off1+st.consts.length*4,none⟩ (.int .i64 ck)).setCell ⟨g1,off1+st.consts.length*4+1,none⟩ (.int .i64 cn)).setCell ⟨g1,off1+st.consts.length*4+2,none⟩ (.string cs)).setCell ⟨g1,off1+st.consts.length*4+3,none⟩ (.slice la ln lc):=by rw[hw4,yaM n1,yaM n1,yaM n1,yaM n1]
    first
    |rw[←hw4]
    |rw[←hw5]
    have S:=yib (c:=⟨ck,cn,cs,la,ln,lc⟩) (x:=x) HX.o.1 rfl HK.o.2.1 HK.o.2.1 HK.o.2.2 HX.o.2.2 FF.o.1 FF.o.2.1 FF.o.2.2 rfl;rw[←hw4]at S;have HS:=zhd S;have d1:=zca S.1.h 1 rfl;have bl4:b<w4.heap.size:=zlt S.1.h;clear S hw4 hw5 y1 y2 y3 y4 y5 y6 m0 m1 m2 m3 fm c1 f0 q0 q1 q2 q3;go_wp2_with fail;go_ret;exact⟨_,rfl,zhd ⟨HS.o.1,(RK.ext HX.o.2.1).trans HS.o.2⟩⟩
def operL (kind line:Int)(s:ByteArray)(st:RSt):Int×Int×RSt:=
 if kind=1 then(if(ycE s.data.toList).2≠0 then(0,(ycE s.data.toList).2,st)else((yfh (ycE s.data.toList).1 st.consts).1,0,{st with consts:=(yfh (ycE s.data.toList).1 st.consts).2}))else
 if kind=2 then(match yl0 s.data.toList with
  |none=>(0,8,st)
  |some n=>((yny n st.names).1,0,{st with names:=(yny n st.names).2}))else
 if kind=4 then(if yoN s.data.toList=true then(0,0,{st with jumps:=st.jumps++[⟨st.code.length,line,s⟩]})else(0,8,st))else
 match yl9 s.data.toList with
 |none=>(0,8,st)
 |some n=>(n,0,if kind=3 then{st with places:=max st.places (n+1)}else st)
def ynI (Z:Nat→Prop)(W:World)(b:Nat)(v:RV)(r:Int×Int×RSt)(e:Ending)(w':World):Prop:=∃v',e= .returned (.tuple #[.int .i64 r.1,.int .i64 r.2.1])∧Hid (RX Z w' b v' r.2.2∧RK b v W v' w')
end Go.Proofs.YtpagmlndgblhhaaGreatDoor
namespace Go.Va
open Go.Own Go.RowKit Go.Own.MapTy
def yi1 (s:ByteArray):ByteArray:=⟨(Lib.trimSuffix s.data.toList [58]).toArray⟩
def yjJ (s:ByteArray):Bool:=Lib.hasSuffix s.data.toList [58]&&yoN (yi1 s).data.toList
def yf8 (s:ByteArray):ByteArray:=⟨(Lib.cut (Lib.trimPrefix s.data.toList [32,32]) [32]).1.toArray⟩
def ycL (s:ByteArray):ByteArray:=⟨(Lib.cut (Lib.trimPrefix s.data.toList [32,32]) [32]).2.1.toArray⟩
def ykr (s:ByteArray):Bool:=(Lib.cut (Lib.trimPrefix s.data.toList [32,32]) [32]).2.2
end Go.Va
namespace Go.Proofs.YtpagmlndgblhhaaGreatDoor
open Go.RowKit Go.Own Go.Own.MapTy Go.Va Go.Sort
open Go.Own.Cells (sz enc)
def lineL (n:Int)(s:ByteArray)(st:RSt):Int×RSt:=
 if yjJ s=true then(if(MapTy.get st.labels (yi1 s)).isSome=true then(5,st)else(0,{st with labels:=upd st.labels (yi1 s) st.code.length}))else
 if Lib.hasPrefix s.data.toList [32,32]=false then(8,st)else
 match yet (yf8 s)with
 |none=>(110,st)
 |some op=>
  if ykr s≠((ofL op).1.operand !=0)then(8,st)else
  if ykr s=true then(if(operL (ofL op).1.operand n (ycL s) st).2.1≠0 then((operL (ofL op).1.operand n (ycL s) st).2.1,(operL (ofL op).1.operand n (ycL s) st).2.2)else
   (0,{(operL (ofL op).1.operand n (ycL s) st).2.2 with code:=(operL (ofL op).1.operand n (ycL s) st).2.2.code++[⟨op,(operL (ofL op).1.operand n (ycL s) st).1⟩]}))else
  (0,{st with code:=st.code++[⟨op,0⟩]})
theorem yoT (x y:ByteArray):(x==y)=decide (x=y):=by
 show(x.data==y.data)=decide (x=y);rw[Bool.eq_iff_iff];simp[ByteArray.ext_iff]
theorem ynt (n:Nat)(em:Bool)(W:World)(x:ByteArray):(Instr.checkKey em (n+1) 9 (.string x)).run Tryz.prog W= .ok () W:=by simp[Instr.checkKey,go_sem]
theorem yoZ:KLaw SM Tryz.prog 9:=KLaw.of_now Tryz.underlying9 (fun W em x=>ynt 9999 em W x) (fun x y=>by simp[SM,Instr.sameNow];exact yoT x y) (fun x=>by simp[SM,Instr.sameBits];exact(yoT x x).trans (by simp))
theorem yk1 {w:World}{b:Nat}{m:List (ByteArray×Int)}(h:MapAt SM w b m)(x:ByteArray):∀W:World,yei w b W→(Instr.lookup 94 (.map (some b)) (.string x) true).run Tryz.prog W= .ok (.tuple #[.int .i64 ((MapTy.get m x).getD 0),.bool (MapTy.get m x).isSome]) W:=by
 intro W hW;have:=h.lookS yoZ Tryz.underlying94 (z:=.int .i64 0) (fun W=>by kernel_rfl) x true W hW;cases hg:MapTy.get m x with
 |none=>rw[hg]at this;exact this
 |some n=>rw[hg]at this;exact this
def ymJ (Z:Nat→Prop)(W:World)(b:Nat)(v:RV)(r:Int×RSt)(e:Ending)(w':World):Prop:=∃v',e= .returned (.int .i64 r.1)∧Hid (RX Z w' b v' r.2∧RK b v W v' w')
theorem ymx:ElemOf In Tryz.prog 24 106 16:=yb0 Tryz.underlying24 (z:=.agg #[.int .i64 0,.int .i64 0]) (n:=2) (by kernel_rfl) rfl rfl
theorem ygQ (s:ByteArray):(ycL s).size≤s.size∧(yf8 s).size≤s.size∧(Lib.trimPrefix s.data.toList [32,32]).length≤s.size:=by
 have e1:(Lib.trimPrefix s.data.toList [32,32]).length≤s.size:=by
  unfold Lib.trimPrefix;split
  ·simp
  ·simp
 have e2:(ycL s).size=(Lib.cut (Lib.trimPrefix s.data.toList [32,32]) [32]).2.1.length:=by show(Lib.cut (Lib.trimPrefix s.data.toList [32,32]) [32]).2.1.toArray.size=_;simp
 have e3:(yf8 s).size=(Lib.cut (Lib.trimPrefix s.data.toList [32,32]) [32]).1.length:=by show(Lib.cut (Lib.trimPrefix s.data.toList [32,32]) [32]).1.toArray.size=_;simp
 rw[e2,e3];unfold Lib.cut;split
 ·simp;omega
 ·simp;omega
theorem yin (kind line:Int)(s:ByteArray)(st:RSt):(operL kind line s st).2.2.code=st.code:=by
 unfold operL;split
 ·split<;>rfl
 ·split
  ·split<;>rfl
  ·split
   ·split<;>rfl
   ·split
    ·rfl
    ·dsimp only
     split<;>rfl
end Go.Proofs.YtpagmlndgblhhaaGreatDoor
namespace Go.Va
open Go.Own Go.RowKit
open Cells (sz enc)
theorem RdF.elems {α:Type}[Cells α]{F:Nat→Prop}{w:World}{a:Option Addr}{n cap:Nat}{xs:List α}(h:RdF F w (.slice a n cap) xs):n=xs.length∧n≤maxLen∧∃g off,(a=some ⟨g,off,none⟩∨xs=[])∧∀(i:Nat) (x:α),xs[i]? =some x→F g∧g<w.heap.size∧∀j u,(enc x)[j]? =some u→w.cell? ⟨g,off+(i*sz α+j),none⟩=some u:=by
 have hl:=h.length_le;obtain⟨a',cap',hv,h1,h2,h3⟩:=h;cases hv;refine⟨rfl,hl,?_⟩;cases xs with
 |nil=>exact⟨0,0,.inr rfl,fun i x hx=>by simp at hx⟩
 |cons y r=>
  obtain⟨g,off,ha,hF,hg,_⟩:=h3 0 y rfl;refine⟨g,off,.inl ha,fun i x hx=> ?_⟩;obtain⟨g',off',ha',hF',hg',hc⟩:=h3 i x hx;rw[ha]at ha';cases ha';exact⟨hF',hg',hc⟩
structure Img where
 code:List In
 consts:List Val
 names:List ByteArray
 places:Int
structure IC where
 ca:Option Addr
 cn:Nat
 cc:Nat
 ka:Option Addr
 kn:Nat
 kc:Nat
 na:Option Addr
 nn:Nat
 nc:Nat
 pl:Int
def IC.cells (i:IC):Array Value:=#[.slice i.ca i.cn i.cc,.slice i.ka i.kn i.kc,.slice i.na i.nn i.nc,.int .i64 i.pl]
structure IAt (F:Nat→Prop)(w:World)(i:IC)(p:Img):Prop where
 code:RdF F w (.slice i.ca i.cn i.cc) p.code
 consts:VF F w (.slice i.ka i.kn i.kc) p.consts
 names:RdF F w (.slice i.na i.nn i.nc) p.names
 pl:i.pl=p.places
theorem IAt.keep {F S:Nat→Prop}{w w':World}{i:IC}{p:Img}(h:IAt F w i p)(K:Keeps S w w')(hs:∀g,F g→¬S g):IAt F w' i p:=⟨h.code.keep K hs,h.consts.keep K hs,h.names.keep K hs,h.pl⟩
theorem IAt.mono {F G:Nat→Prop}{w:World}{i:IC}{p:Img}(h:IAt F w i p)(hs:∀g,F g→g<w.heap.size→G g):IAt G w i p:=⟨h.code.mono hs,h.consts.mono hs,h.names.mono hs,h.pl⟩
theorem IAt.lens {F:Nat→Prop}{w:World}{i:IC}{p:Img}(h:IAt F w i p):i.cn=p.code.length∧i.kn=p.consts.length∧i.nn=p.names.length:=⟨h.code.elems.1,h.consts.elems.1,h.names.elems.1⟩
def mostL (p:Img)(k:Int):Int:=
 bif k==1 then p.consts.length else bif k==2 then p.names.length else bif k==3 then p.places else bif k==4 then p.code.length else bif k==5 then 17 else 1
end Go.Va
namespace Go.Proofs.YtpagmlndgblhhaaGreatDoor
open Go.RowKit Go.Own Go.Own.MapTy Go.Va Go.Sort
open Go.Own.Cells (sz enc)
theorem ykY (F:Nat→Prop)(w:World)(i:IC)(p:Img)(k:Int)(H:IAt F w i p):Calls Tryz.prog 94 #[.agg #[.slice i.ca i.cn i.cc,.slice i.ka i.kn i.kc,.slice i.na i.nn i.nc,.int .i64 i.pl],.int .i64 k] w fun e w'=>e= .returned (.int .i64 (mostL p k))∧Below w.heap.size w w':=by
 obtain⟨h1,h2,h3⟩:=H.lens;have h4:=H.pl;have hr:mostL p k=bif k==1 then(i.kn:Int)else bif k==2 then(i.nn:Int)else bif k==3 then i.pl else bif k==4 then(i.cn:Int)else bif k==5 then 17 else 1:=by rw[h1,h2,h3,h4];rfl
 rw[hr];clear H h1 h2 h3 h4 hr;obtain⟨ca,cn,cc,ka,kn,kc,na,nn,nc,pl⟩:=i;dsimp only;go_enter Tryz.func94,Tryz.ntmps94;go_wp2_with fail
 all_goals
  go_ret;exact⟨by simp only[*,znm,znl];rfl,zal⟩
def ybp (p:Img):List In→Int
 |[]=>0
 |c::r=>bif !(ofL c.op).2 then 110 else bif decide (c.a<0)||decide (mostL p (ofL c.op).1.operand≤c.a)then 1 else ybp p r
def ya8:List ByteArray→Int
 |[]=>0
 |s::r=>bif decide (64<s.size)then 2 else ya8 r
def yaI:List Val→Int
 |[]=>0
 |x::r=>bif checkL x !=0 then checkL x else yaI r
def imgL (p:Img):Int:=
 bif decide (p.code.length=0)then 6 else
 bif decide (512<p.code.length)||(decide (64<p.consts.length)||decide (32<p.names.length))then 2 else
 bif decide (p.places<0)||decide (16<p.places)then 1 else
 bif yaI p.consts !=0 then yaI p.consts else
 bif ya8 p.names !=0 then ya8 p.names else ybp p p.code
theorem ygR
  (F:Nat→Prop)(w:World)(i:IC)(p:Img)(H:IAt F w i p)(r:Int)
  (h:p.code.length=0)(hr:r=6):
  Calls Tryz.prog 48 #[.agg #[.slice i.ca i.cn i.cc,.slice i.ka i.kn i.kc,.slice i.na i.nn i.nc,.int .i64 i.pl]] w fun e w'=>e= .returned (.int .i64 r)∧Below w.heap.size w w'
  :=by
 subst hr;have h1:=H.lens.1;obtain⟨ca,cn,cc,ka,kn,kc,na,nn,nc,pl⟩:=i;obtain rfl:cn=0:=by rw[←h];exact h1
 clear H h h1;dsimp only;go_enter Tryz.func48,Tryz.ntmps48;go_wp2_with fail;go_ret;exact⟨rfl,zal⟩
theorem yiI
  (F:Nat→Prop)(w:World)(i:IC)(p:Img)(H:IAt F w i p)(r:Int)
  (h0:¬p.code.length=0)(h:512<p.code.length∨64<p.consts.length∨32<p.names.length)(hr:r=2):
  Calls Tryz.prog 48 #[.agg #[.slice i.ca i.cn i.cc,.slice i.ka i.kn i.kc,.slice i.na i.nn i.nc,.int .i64 i.pl]] w fun e w'=>e= .returned (.int .i64 r)∧Below w.heap.size w w'
  :=by
 subst hr;obtain⟨h1,h2,h3⟩:=H.lens;obtain⟨ca,cn,cc,ka,kn,kc,na,nn,nc,pl⟩:=i;dsimp only at h1 h2 h3;rw[←h1]at h h0;rw[←h2,←h3]at h;clear H h1 h2 h3;have e0:((cn:Int)==0)=false:=by rw[zna];omega
 dsimp only;go_enter Tryz.func48,Tryz.ntmps48;by_cases g1:512<cn
 ·have e1:(512:Int)<cn:=by omega
  clear h h0;go_wp2_with fail;go_ret;exact⟨rfl,zal⟩
 ·have e1:¬(512:Int)<cn:=by omega
  by_cases g2:64<kn
  ·have e2:(64:Int)<kn:=by omega
   clear h h0;go_wp2_with fail;go_ret;exact⟨rfl,zal⟩
  ·have e2:¬(64:Int)<kn:=by omega
   have e3:(32:Int)<nn:=by omega
   clear h h0;go_wp2_with fail;go_ret;exact⟨rfl,zal⟩
theorem yfS
  (F:Nat→Prop)(w:World)(i:IC)(p:Img)(H:IAt F w i p)(r:Int)
  (h0:¬p.code.length=0)(h:p.code.length≤512∧p.consts.length≤64∧p.names.length≤32)(hp:p.places<0∨16<p.places)(hr:r=1):
  Calls Tryz.prog 48 #[.agg #[.slice i.ca i.cn i.cc,.slice i.ka i.kn i.kc,.slice i.na i.nn i.nc,.int .i64 i.pl]] w fun e w'=>e= .returned (.int .i64 r)∧Below w.heap.size w w'
  :=by
 subst hr;obtain⟨h1,h2,h3⟩:=H.lens;have h4:=H.pl;obtain⟨ca,cn,cc,ka,kn,kc,na,nn,nc,pl⟩:=i;dsimp only at h1 h2 h3 h4;rw[←h1]at h h0;rw[←h2,←h3]at h;rw[←h4]at hp;clear H h1 h2 h3 h4;have e0:((cn:Int)==0)=false:=by rw[zna];omega
 have e1:¬(512:Int)<cn:=by omega
 have e2:¬(64:Int)<kn:=by omega
 have e3:¬(32:Int)<nn:=by omega
 dsimp only;go_enter Tryz.func48,Tryz.ntmps48;by_cases g1:pl<0
 ·clear h h0 hp
  go_wp2_with fail;go_ret;exact⟨rfl,zal⟩
 ·have g2:16<pl:=by omega
  clear h h0 hp;go_wp2_with fail;go_ret;exact⟨rfl,zal⟩
theorem yiH
  (F:Nat→Prop)(w:World)(i:IC)(p:Img)(H:IAt F w i p)(r:Int)
  (hw:∀x∈p.consts,x.wf)(h0:¬p.code.length=0)(h:p.code.length≤512∧p.consts.length≤64∧p.names.length≤32)(hp:0≤p.places∧p.places≤16)
  (hr:(bif yaI p.consts !=0 then yaI p.consts else bif ya8 p.names !=0 then ya8 p.names else ybp p p.code)=r):
  Calls Tryz.prog 48 #[.agg #[.slice i.ca i.cn i.cc,.slice i.ka i.kn i.kc,.slice i.na i.nn i.nc,.int .i64 i.pl]] w fun e w'=>e= .returned (.int .i64 r)∧Below w.heap.size w w'
  :=by
 obtain⟨h1,h2,h3⟩:=H.lens;have h4:=H.pl;have HI:=zhd H;have hc:=H.code.elems.2.2;have hk:=H.consts.elems.2.2;have hn:=H.names.elems.2.2;obtain⟨ca,cn,cc,ka,kn,kc,na,nn,nc,pl⟩:=i;dsimp only at h1 h2 h3 h4 hc hk hn;have HE:=zh5 hc hk hn hw hr;have HL:=zh3 h1 h2 h3;rw[←h1]at h h0;rw[←h2,←h3]at h;rw[←h4]at hp;clear H h1 h2 h3 h4 hc hk hn hw hr;have e0:((cn:Int)==0)=false:=by rw[zna];omega
 have e1:¬(512:Int)<cn:=by omega
 have e2:¬(64:Int)<kn:=by omega
 have e3:¬(32:Int)<nn:=by omega
 have e4:¬pl<0:=by omega
 have e5:¬(16:Int)<pl:=by omega
 obtain⟨g1,g2,g3⟩:=h;dsimp only;go_enter Tryz.func48,Tryz.ntmps48;go_wp2_with fail;obtain⟨w0,hw0⟩:∃w0,w0=w.alloc (.cells #[.slice ca cn cc,.slice ka kn kc,.slice na nn nc,.int .i64 pl] 28):=⟨_,rfl⟩;have B0:=zba hw0;have q:∀o,w0.cell? ⟨w.heap.size,o,none⟩=(#[.slice ca cn cc,.slice ka kn kc,.slice na nn nc,.int .i64 pl]:Array Value)[o]? :=fun o=>by rw[hw0,zch (znb _ _)]
 have sz0:w0.heap.size=w.heap.size+1:=by rw[hw0];simp
 rw[←hw0];have H0:=zh3 B0 q sz0;clear hw0 B0 q sz0 e0 e1 e2 e3 e4 e5;go_loopg [46] (p.consts.length) (fun gk v46 wr=>∃i:Nat,v46= .int .i64 i∧i≤p.consts.length∧gk=p.consts.length - i∧yaI (p.consts.drop i)=yaI p.consts∧Below w0.heap.size w0 wr)
 case atStart=>exact⟨0,rfl,znq _,rfl,rfl,znv _ _⟩
 case round=>
  obtain⟨i,rfl,hi,hgk,hce,hB⟩:=hrel;have szr:=hB.size;have BW:=H0.o.1.trans (hB.mono (show w.heap.size≤w0.heap.size by have:=H0.o.2.2;omega));by_cases hin:i<kn
  ·obtain⟨x,hx⟩:=yad (l:=p.consts) (k:=i) (by have:=HL.o.2.1;omega)
   have hdr:p.consts.drop i=x::p.consts.drop (i+1):=by
    rw[znr (zge hx).1,(zge hx).2]
   rw[hdr,yaI]at hce;obtain⟨g,off,ha,hFg,hg,hel⟩:=HE.o.2.1.resolve_left (fun e=>by rw[e]at hx;simp at hx);obtain⟨d,hD,m0,m1,m2,m3⟩:=hel i x hx;subst ha;have hgl:g<wr.heap.size:=by have:=BW.size;omega
   rw[←BW.cell (p:=⟨g,_,none⟩) hg]at m0 m1 m2 m3;have hin':(i:Int)<kn:=by omega
   have CK:=zhd (yaB x d.kind d.n d.s d.la d.ln d.lc _ _ (hD.keep (S:=fun _=>False) ((zkb BW).alloc (.cells #[.int .i64 d.kind,.int .i64 d.n,.string d.s,.slice d.la d.ln d.lc] 38)) (fun _ _ f=>f)) (HE.o.2.2.2.1 x (zmg hx)) _ rfl);generalize checkL x=cl at*;have HX:=zh4 hce hgk hB BW;clear hce hgk hB BW hel hD hx hdr;go_wp2_with fail;refine CK.o.mono ?_;rintro e w5 ⟨rfl,hB5⟩;have H5:=zhd (show Below wr.heap.size wr w5 from(zal).trans (hB5.mono (by simp)));clear hB5 CK;cases hz:(cl !=0)with
   |true=>
    have hr:=HE.o.2.2.2.2;have hc:=HX.o.1;rw[hz]at hc;simp only[znm]at hc;rw[←hc,hz]at hr;simp only[znm]at hr;have HR:=zhd hr;clear hr hc;go_wp2_with fail;go_ret;exact⟨by rw[←HR.o];rfl,HX.o.2.2.2.trans (H5.o.mono HX.o.2.2.2.size)⟩
   |false=>
    have hc:=HX.o.1;rw[hz]at hc;simp only[znl]at hc;have HC:=zhd hc;clear hc;go_wp2_with fail;go_roundg (p.consts.length - (i+1))
    case measure=>have:=HX.o.2.1;have:=HL.o.2.1;omega
    case rel=>exact⟨i+1,by simp,by have:=HL.o.2.1;omega,rfl,HC.o,HX.o.2.2.1.trans (H5.o.mono szr)⟩
  ·obtain rfl:i=kn:=by have:=HL.o.2.1;omega
   have hdn:p.consts.drop i=[]:=zns (by have:=HL.o.2.1;omega);rw[hdn,yaI]at hce;have hr:=HE.o.2.2.2.2;rw[←hce]at hr;simp only[bne_self_eq_false,znl]at hr;have HR1:=zhd hr;have lt1:w.heap.size<w0.heap.size:=by have:=H0.o.2.2;omega
   have q0:=(hB.cell (p:=⟨w.heap.size,0,none⟩) lt1).trans (H0.o.2.1 0);have q1:=(hB.cell (p:=⟨w.heap.size,1,none⟩) lt1).trans (H0.o.2.1 1);have q2:=(hB.cell (p:=⟨w.heap.size,2,none⟩) lt1).trans (H0.o.2.1 2);have q3:=(hB.cell (p:=⟨w.heap.size,3,none⟩) lt1).trans (H0.o.2.1 3);simp only[zmc,zma,zmb]at q0 q1 q2 q3;have ltr:w.heap.size<wr.heap.size:=by omega
   have HBW:=zhd BW;obtain⟨wm,hwm⟩:∃wm,wm=wr:=⟨_,rfl⟩;rw[←hwm]at q0 q1 q2 q3 ltr HBW⊢;clear hr hce hgk hdn hB BW hin hi hwm szr;go_wp2_with fail;go_loopg [59] (p.names.length) (fun gk v59 wr=>∃i:Nat,v59= .int .i64 i∧i≤p.names.length∧gk=p.names.length - i∧ya8 (p.names.drop i)=ya8 p.names∧wr=wm)
   case atStart=>exact⟨0,rfl,znq _,rfl,rfl,rfl⟩
   case round=>
    obtain⟨j,rfl,hj,hgk,hne,hwr⟩:=hrel;subst hwr;by_cases hjn:j<nn
    ·obtain⟨x,hx⟩:=yad (l:=p.names) (k:=j) (by have:=HL.o.2.2;omega)
     have hdr:p.names.drop j=x::p.names.drop (j+1):=by
      rw[znr (zge hx).1,(zge hx).2]
     rw[hdr,ya8]at hne;obtain⟨g,off,ha,hel⟩:=HE.o.2.2.1;obtain⟨hFg,hg,hcs⟩:=hel j x hx;have ha:=ha.resolve_right (fun e=>by rw[e]at hx;simp at hx);subst ha;have m0:=hcs 0 _ rfl;rw[show off+(j*sz ByteArray+0)=off+j from by simp[Cells.sz]]at m0;rw[←HBW.o.cell (p:=⟨g,_,none⟩) hg]at m0;have hjn':(j:Int)<nn:=by omega
     cases hz:decide (64<x.size)with
     |true=>
      have h5:(64:Int)<x.size:=by have:=znx hz;omega
      rw[hz]at hne;simp only[znm]at hne;have hr:=HR1.o;rw[←hne]at hr;have HR:=zhd hr;clear hr hne hgk hdr hx hcs hel hz;go_wp2_with fail;go_ret;exact⟨by rw[←HR.o];rfl,HBW.o⟩
     |false=>
      have h5:¬(64:Int)<x.size:=by have:=zny hz;omega
      rw[hz]at hne;simp only[znl]at hne;have HX:=zh2 hne hgk;clear hne hgk hdr hx hcs hel hz;go_wp2_with fail;go_roundg (p.names.length - (j+1))
      case measure=>have:=HX.o.2;have:=HL.o.2.2;omega
      case rel=>exact⟨j+1,by simp,by have:=HL.o.2.2;omega,rfl,HX.o.1,rfl⟩
    ·obtain rfl:j=nn:=by have:=HL.o.2.2;omega
     have hdn:p.names.drop j=[]:=zns (by have:=HL.o.2.2;omega);rw[hdn,ya8]at hne;have hr:=HR1.o;rw[←hne]at hr;simp only[bne_self_eq_false,znl]at hr;have HR2:=zhd hr;clear hr hne hgk hdn hjn hj;obtain⟨wm,hwm⟩:∃wm,wm=wr:=⟨_,rfl⟩;rw[←hwm]at q0 q1 q2 q3 ltr HBW⊢;clear hwm;go_wp2_with fail;go_loopg [70] (p.code.length) (fun gk v70 wr=>∃i:Nat,v70= .int .i64 i∧i≤p.code.length∧gk=p.code.length - i∧ybp p (p.code.drop i)=r∧Below wm.heap.size wm wr)
     case atStart=>exact⟨0,rfl,znq _,rfl,HR2.o,znv _ _⟩
     case round=>
      obtain⟨k,rfl,hk,hgk,hce,hB⟩:=hrel;have szr:=hB.size;have ltk:w.heap.size<wr.heap.size:=by omega
      have BW:=HBW.o.trans (hB.mono (zmn ltr));rw[←hB.cell (p:=⟨w.heap.size,_,none⟩) ltr]at q0 q1 q2 q3;by_cases hkn:k<cn
      ·obtain⟨c,hx⟩:=yad (l:=p.code) (k:=k) (by have:=HL.o.1;omega)
       have hdr:p.code.drop k=c::p.code.drop (k+1):=by
        rw[znr (zge hx).1,(zge hx).2]
       rw[hdr,ybp]at hce;obtain⟨g,off,ha,hel⟩:=HE.o.1;obtain⟨hFg,hg,hcs⟩:=hel k c hx;have ha:=ha.resolve_right (fun e=>by rw[e]at hx;simp at hx);subst ha;have m0:=hcs 0 _ rfl;have m1:=hcs 1 _ rfl;rw[show off+(k*sz In+0)=off+k*2 from rfl,←BW.cell (p:=⟨g,_,none⟩) hg]at m0;rw[show off+(k*sz In+1)=off+k*2+1 from rfl,←BW.cell (p:=⟨g,_,none⟩) hg]at m1;have hkn':(k:Int)<cn:=by omega
       obtain⟨inf,ok,hof⟩:∃inf ok,ofL c.op=(inf,ok):=⟨_,_,rfl⟩;have OF:=zhd (show∀W,Calls Tryz.prog 92 #[.int .i64 c.op] W (fun e w'=>e= .returned (.tuple #[.agg #[.string inf.name,.int .i64 inf.operand,.int .i64 inf.i,.int .i64 inf.o,.bool inf.blocks,.bool inf.ends,.bool inf.flow],.bool ok])∧Below W.heap.size W w')from fun W=>(yfz c.op W).mono fun e w' ⟨j1,j2⟩=>⟨by rw[j1,hof];rfl,j2⟩);rw[hof]at hce;obtain⟨cop,cav⟩:=c;dsimp only at m0 m1 OF hce hof;have HX:=zh3 hgk hB BW;have HCE:=zhd hce;clear hgk hB BW hcs hel hdr hx hce hof;go_wp2_with fail;refine(OF.o _).mono ?_;rintro e w5 ⟨rfl,hB5⟩;have lt5:wr.heap.size<w5.heap.size:=by have:=hB5.size;simp at this;omega
       have i0:w5.cell? ⟨wr.heap.size,0,none⟩=some (.int .i64 cop):=by rw[hB5.cell (p:=⟨wr.heap.size,0,none⟩) (by simp),zch (znb _ _)];rfl
       have i1:w5.cell? ⟨wr.heap.size,1,none⟩=some (.int .i64 cav):=by rw[hB5.cell (p:=⟨wr.heap.size,1,none⟩) (by simp),zch (znb _ _)];rfl
       have B5:Below wr.heap.size wr w5:=((znv _ _).alloc (znc _) (.cells #[.int .i64 cop,.int .i64 cav] 106)).trans (hB5.mono (by simp));have HB5:=zhd B5;clear hB5 OF;cases ok with
       |false=>
        have hc:=HCE.o;simp only[Bool.not_false,znm]at hc;have HR:=zhd hc;clear hc B5;go_wp2_with fail;go_ret;exact⟨by rw[←HR.o];rfl,(HX.o.2.2.trans (HB5.o.mono HX.o.2.2.size)).alloc (by have:=HX.o.2.2.size;omega) _⟩
       |true=>
        have hc:=HCE.o;simp only[Bool.not_true,znl]at hc;obtain⟨w6,hw6⟩:∃w6,w6=w5.alloc (.cells #[.string inf.name,.int .i64 inf.operand,.int .i64 inf.i,.int .i64 inf.o,.bool inf.blocks,.bool inf.ends,.bool inf.flow] 169):=⟨_,rfl⟩;have B6:Below wr.heap.size wr w6:=by rw[hw6];exact B5.alloc (by omega) _
        have sz6:w5.heap.size<w6.heap.size:=by rw[hw6];simp
        have u1:w6.cell? ⟨w5.heap.size,1,none⟩=some (.int .i64 inf.operand):=by rw[hw6,zch (znb _ _)];rfl
        have i1:w6.cell? ⟨wr.heap.size,1,none⟩=some (.int .i64 cav):=by rw[hw6];exact(znt (w:=w5) (zne _ _ _ lt5)).trans i1
        rw[←B6.cell (p:=⟨w.heap.size,_,none⟩) ltk]at q0 q1 q2 q3;have lt6:w.heap.size<w6.heap.size:=by omega
        have lt7:wr.heap.size<w6.heap.size:=by omega
        have HB6:=zhd (HX.o.2.2.trans (B6.mono HX.o.2.2.size));have HBr:=zhd (HX.o.2.1.trans (B6.mono szr));go_wp2_with fail;rw[←hw6];clear hw6 B5 B6 HB5;cases hneg:decide (cav<0)with
        |true=>
         rw[hneg]at hc;simp only[Bool.true_or,znm]at hc;have HR:=zhd hc;have h6:cav<0:=znx hneg;clear hc;refine yaC (by kernel_rfl) (by kernel_rfl) ?_
         repeat(go_big_quiet_step (fail))
         refine wpQuiet_nil ?_;intro w7 hB7;go_wp2_with fail;go_ret;exact⟨by rw[←HR.o];rfl,HB6.o.trans (hB7.mono HB6.o.size)⟩
        |false=>
         rw[hneg]at hc;simp only[Bool.false_or]at hc;have h6:¬cav<0:=zny hneg;have MO:=zhd (fun W (hW:Below w6.heap.size w6 W)=>ykY _ W ⟨some ⟨g,off,none⟩,cn,cc,ka,i,kc,na,j,nc,pl⟩ p inf.operand (HI.o.keep (S:=fun _=>False) (zkb (HB6.o.trans (hW.mono HB6.o.size))) (fun _ _ f=>f)));generalize mostL p inf.operand=mo at*;cases hge:decide (mo≤cav)with
         |true=>
          rw[hge]at hc;simp only[znm]at hc;have HR:=zhd hc;have h7:mo≤cav:=znx hge;clear hc hneg hge;refine yaC (by kernel_rfl) (by kernel_rfl) ?_
          repeat(go_big_quiet_step ((go_at_call 94;exact ydq (MO.o _ (Subtype.property _)))))
          refine wpQuiet_nil ?_;intro w7 hB7;go_wp2_with fail;go_ret;exact⟨by rw[←HR.o];rfl,HB6.o.trans (hB7.mono HB6.o.size)⟩
         |false=>
          rw[hge]at hc;simp only[znl]at hc;have HR:=zhd hc;have h7:¬mo≤cav:=zny hge;clear hc hneg hge;refine yaC (by kernel_rfl) (by kernel_rfl) ?_
          repeat(go_big_quiet_step ((go_at_call 94;exact ydq (MO.o _ (Subtype.property _)))))
          refine wpQuiet_nil ?_;intro w7 hB7;go_wp2_with fail;go_roundg (p.code.length - (k+1))
          case measure=>have:=HX.o.1;have:=HL.o.1;omega
          case rel=>exact⟨k+1,by simp,by have:=HL.o.1;omega,rfl,HR.o,HBr.o.trans (hB7.mono HBr.o.size)⟩
      ·obtain rfl:k=cn:=by have:=HL.o.1;omega
       have hdn:p.code.drop k=[]:=zns (by have:=HL.o.1;omega);rw[hdn,ybp]at hce;have HR:=zhd hce;have HBE:=zhd BW;clear hce hgk hB BW;go_wp2_with fail;go_ret;exact⟨by rw[←HR.o];rfl,HBE.o⟩
theorem yc9
  (F:Nat→Prop)(w:World)(i:IC)(p:Img)(H:IAt F w i p)(r:Int)
  (hw:∀x∈p.consts,x.wf)(hr:imgL p=r):
  Calls Tryz.prog 48 #[.agg #[.slice i.ca i.cn i.cc,.slice i.ka i.kn i.kc,.slice i.na i.nn i.nc,.int .i64 i.pl]] w fun e w'=>e= .returned (.int .i64 r)∧Below w.heap.size w w'
  :=by
 unfold imgL at hr;by_cases h0:p.code.length=0
 ·rw[zno h0]at hr
  exact ygR F w i p H r h0 hr.symm
 ·rw[znd h0]at hr
  simp only[znl]at hr;by_cases h1:512<p.code.length∨64<p.consts.length∨32<p.names.length
  ·have e:(decide (512<p.code.length)||(decide (64<p.consts.length)||decide (32<p.names.length)))=true:=by simpa using h1
   rw[e]at hr;exact yiI F w i p H r h0 h1 hr.symm
  ·have e:(decide (512<p.code.length)||(decide (64<p.consts.length)||decide (32<p.names.length)))=false:=by
    rw[Bool.eq_false_iff];exact fun h=>h1 (by simpa using h)
   rw[e]at hr;simp only[znl]at hr;by_cases h2:p.places<0∨16<p.places
   ·have e:(decide (p.places<0)||decide (16<p.places))=true:=by simpa using h2
    rw[e]at hr;exact yfS F w i p H r h0 (by omega) h2 hr.symm
   ·have e:(decide (p.places<0)||decide (16<p.places))=false:=by
     rw[Bool.eq_false_iff];exact fun h=>h2 (by simpa using h)
    rw[e]at hr;exact yiH F w i p H r hw h0 (by omega) (by omega) hr
end Go.Proofs.YtpagmlndgblhhaaGreatDoor
namespace Go.Va
open Go.Own Go.RowKit
structure SK (b:Nat)(w w':World):Prop where
 below:Below b w w'
 kept:Lib.OthersKept 5 (some b) w w'
def yoP (n:Nat):UInt8:=if n<10 then UInt8.ofNat (48+n)else UInt8.ofNat (87+n)
def ypb (c:UInt8):List UInt8:=if c.toNat=34∨c.toNat=92 then[92,c]else if c.toNat<32∨126<c.toNat then[92,120,yoP (c.toNat/16),yoP (c.toNat%16)]else[c]
def ym7 (s:List UInt8):List UInt8:=34::(s.flatMap ypb++[34])
end Go.Va
