/- Parts of the proof: what the functions and the plain laws give that later parts lean on. Conditions: none beyond those that each theorem names. -/
import Derived.Shelf.Strings.BuilderK
import Derived.Test.YtpagmlndgblhhaaGreatDoorW3
set_option maxRecDepth 100000
set_option maxHeartbeats 8000000
namespace Go.Va
open Go.Own Go.RowKit
structure In where
 op:Int
 a:Int
instance:Cells In where
 sz:=2
 enc:=fun c=>[.int .i64 c.op,.int .i64 c.a]
 len:=fun _=>rfl
 one:=by
  intro x v hv;simp at hv;rcases hv with rfl|rfl<;>rfl
instance:Cells ByteArray where
 sz:=1
 enc:=fun s=>[.string s]
 len:=fun _=>rfl
 one:=by
  intro x v hv;simp at hv;subst hv;rfl
structure Jp where
 at_:Int
 line:Int
 label:ByteArray
instance:Cells Jp where
 sz:=3
 enc:=fun j=>[.int .i64 j.at_,.int .i64 j.line,.string j.label]
 len:=fun _=>rfl
 one:=by
  intro x v hv;simp at hv;rcases hv with rfl|rfl|rfl<;>rfl
def SM:MapTy ByteArray Int:=⟨fun s=>.string s,fun n=>.int .i64 n,fun a b h=>by simpa using h⟩
structure RV where
 vc:Value
 vk:Value
 vn:Value
 vj:Value
 pl:Int
 mb:Option Nat
structure RSt where
 code:List In
 consts:List Val
 names:List ByteArray
 places:Int
 labels:List (ByteArray×Int)
 jumps:List Jp
def RO (v:RV)(b j:Nat):Prop:=j=b\/v.mb=some j\/v.vc.ownBlock=some j\/v.vk.ownBlock=some j\/v.vn.ownBlock=some j\/v.vj.ownBlock=some j
structure Sep (v:RV)(b:Nat):Prop where
 m:∀j,v.mb=some j->j≠b
 c:∀j,v.vc.ownBlock=some j->j≠b/\v.mb≠some j
 k:∀j,v.vk.ownBlock=some j->j≠b/\v.mb≠some j/\v.vc.ownBlock≠some j
 n:∀j,v.vn.ownBlock=some j->j≠b/\v.mb≠some j/\v.vc.ownBlock≠some j/\v.vk.ownBlock≠some j
 j:∀j,v.vj.ownBlock=some j->j≠b/\v.mb≠some j/\v.vc.ownBlock≠some j/\v.vk.ownBlock≠some j/\v.vn.ownBlock≠some j
structure RS (W:World)(tr ti tv ts tj:TypeId)(Z:Nat->Prop)(b:Nat)(v:RV)(st:RSt):Prop where
 h:W.heap[b]? =some (.cells #[v.vc,v.vk,v.vn,v.pl,.map v.mb,v.vj] tr (0,0))
 code:RowAt W ti v.vc st.code
 consts:VRow (fun j=>¬RO v b j/\Z j) W tv v.vk st.consts
 names:RowAt W ts v.vn st.names
 jumps:RowAt W tj v.vj st.jumps
 pl:v.pl=st.places
 labels:∀m,v.mb=some m->MapAt SM W m st.labels
 sep:Sep v b
def RK (b:Nat)(v:RV)(W:World)(v':RV)(W':World):Prop:=Keeps (RO v b) W W'/\(∀j,RO v' b j->RO v b j\/W.heap.size<=j)/\v'.mb=v.mb
theorem RK.refl (b:Nat)(v:RV)(W:World):RK b v W v W:=⟨Keeps.refl _ _,fun _ h=>.inl h,rfl⟩
theorem RK.trans {b:Nat}{v v' v'':RV}{W W' W'':World}(h:RK b v W v' W')(k:RK b v' W' v'' W''):RK b v W v'' W'':=by
 refine⟨h.1.trans k.1 (fun j hj e=>(h.2.1 j e).resolve_right (by omega)),fun j hj=> ?_,k.2.2.trans h.2.2⟩;rcases k.2.1 j hj with A|A
 .exact h.2.1 j A
 .exact .inr (znf h.1.size A)
theorem RK.ext {b:Nat}{v:RV}{W W':World}(K:Below W W W'):RK b v W v W':=⟨(zkb (S:=fun _=>False) K).mono (fun _ _ f=>f.elim),fun _ h=>.inl h,rfl⟩
section
variable{W W':World} {tr ti tv ts tj:TypeId} {Z Z':Nat->Prop} {b:Nat} {v:RV} {st:RSt}
theorem RS.lt (R:RS W tr ti tv ts tj Z b v st){j:Nat}(h:RO v b j):j<W:=by
 rcases h with rfl|h|h|h|h|h
 .exact zlt R.h
 .exact(R.labels j h).lt
 .exact R.code.lt h
 .obtain⟨B,A,_⟩:=R.consts
  exact A.lt h
 .exact R.names.lt h
 .exact R.jumps.lt h
theorem RS.far {S:Nat->Prop}(R:RS W tr ti tv ts tj Z b v st)(K:Keeps S W W')(h1:∀j,S j->¬RO v b j)(h2:∀j,S j->¬Z j):RS W' tr ti tv ts tj Z b v st:=
 ⟨(K.block b (zlt R.h) (fun s=>h1 b s (.inl rfl))).trans R.h,R.code.keep K (fun g hg s=>h1 g s (.inr (.inr (.inl hg)))),R.consts.keep K (fun g h s=>h2 g s h.2) (fun g hg s=>h1 g s (.inr (.inr (.inr (.inl hg))))),R.names.keep K (fun g hg s=>h1 g s (.inr (.inr (.inr (.inr (.inl hg)))))),R.jumps.keep K (fun g hg s=>h1 g s (.inr (.inr (.inr (.inr (.inr hg)))))),R.pl,fun m hm=>(R.labels m hm).keep K (fun s=>h1 m s (.inr (.inl hm))),R.sep⟩
theorem RS.monoZ (R:RS W tr ti tv ts tj Z b v st)(h:∀j,Z j->j<W.heap.size->Z' j):RS W tr ti tv ts tj Z' b v st:=
 ⟨R.h,R.code,R.consts.mono (fun j hj hl=>⟨hj.1,h j hj.2 hl⟩),R.names,R.jumps,R.pl,R.labels,R.sep⟩
theorem RS.ext (R:RS W tr ti tv ts tj Z b v st)(K:Below W W W'):RS W' tr ti tv ts tj Z b v st:=
 have A:Keeps (fun _=>False) W W':=zkb K
 ⟨(K.block b (zlt R.h)).trans R.h,R.code.keep A (fun _ _ f=>f),R.consts.keep A (fun _ _ f=>f) (fun _ _ f=>f),R.names.keep A (fun _ _ f=>f),R.jumps.keep A (fun _ _ f=>f),R.pl,fun m hm=>(R.labels m hm).keep A (fun f=>f),R.sep⟩
theorem RS.setCode (R:RS W tr ti tv ts tj Z b v st){w1:World}{v1:Value}{l1:List In}(hr:RowAt w1 ti v1 l1)(K:Keeps (fun j=>v.vc.ownBlock=some j) W w1)(hf:∀g,v1.ownBlock=some g->v.vc.ownBlock=some g\/W.heap.size<=g):
  RS (w1.setCell ⟨b,0,none⟩ v1) tr ti tv ts tj Z b {v with vc:=v1} {st with code:=l1}/\RK b v W {v with vc:=v1} (w1.setCell ⟨b,0,none⟩ v1):=by
 have D:v.vc.ownBlock≠some b:=fun e=>(R.sep.c b e).1 rfl;have H:w1.heap[b]? =some (.cells #[v.vc,v.vk,v.vn,v.pl,.map v.mb,v.vj] tr (0,0)):=(K.block b (zlt R.h) D).trans R.h;have E:Keeps (fun j=>j=b) w1 (w1.setCell ⟨b,0,none⟩ v1):=Keeps.setCell (S:=fun j=>j=b) (p:=⟨b,0,none⟩) (Keeps.refl _ _) (.inl rfl) _;have B:Keeps (fun j=>j=b\/v.vc.ownBlock=some j) W (w1.setCell ⟨b,0,none⟩ v1):=(K.mono (fun _ _ e=>.inr e)).trans E (fun _ _ e=>.inl e);have A:∀j,v1.ownBlock=some j->j≠b/\v.mb≠some j/\v.vk.ownBlock≠some j/\v.vn.ownBlock≠some j/\v.vj.ownBlock≠some j:=fun j hj=>by
  rcases hf j hj with h|h
  .exact⟨(R.sep.c j h).1,(R.sep.c j h).2,fun e=>(R.sep.k j e).2.2 h,fun e=>(R.sep.n j e).2.2.1 h,fun e=>(R.sep.j j e).2.2.1 h⟩
  .exact⟨(fun e=>by have:=R.lt (j:=j) (.inl e);omega),(fun e=>by have:=R.lt (j:=j) (.inr (.inl e));omega),(fun e=>by have:=R.lt (j:=j) (.inr (.inr (.inr (.inl e))));omega),(fun e=>by have:=R.lt (j:=j) (.inr (.inr (.inr (.inr (.inl e)))));omega),(fun e=>by have:=R.lt (j:=j) (.inr (.inr (.inr (.inr (.inr e)))));omega)⟩
 have F:∀j,RO v b j->j<W.heap.size:=fun j=>R.lt;have C:VRow (fun j=>¬RO {v with vc:=v1} b j/\Z j) (w1.setCell ⟨b,0,none⟩ v1) tv v.vk st.consts:=by
  refine((R.consts.mono (G:=fun j=>(¬RO v b j/\Z j)/\¬v1.ownBlock=some j) (fun j h l=>⟨h,fun e=>(hf j e).elim (fun h1=>h.1 (.inr (.inr (.inl h1)))) (fun h1=>by omega)⟩)).keep B (fun g h e=>h.1.1 (e.elim .inl (fun e=>.inr (.inr (.inl e))))) (fun g hg e=>e.elim (R.sep.k g hg).1 (fun e=>(R.sep.k g hg).2.2 e))).mono (fun j h _=>⟨fun e=> ?_,h.1.2⟩);rcases e with e|e|e|e|e|e
  .exact h.1.1 (.inl e)
  .exact h.1.1 (.inr (.inl e))
  .exact h.2 e
  .exact h.1.1 (.inr (.inr (.inr (.inl e))))
  .exact h.1.1 (.inr (.inr (.inr (.inr (.inl e)))))
  .exact h.1.1 (.inr (.inr (.inr (.inr (.inr e)))))
 refine⟨⟨by simp[World.setCell,zni,H],hr.keep E (fun g hg=>(A g hg).1),C,R.names.keep B (fun g hg e=>e.elim (R.sep.n g hg).1 (fun e=>(R.sep.n g hg).2.2.1 e)),R.jumps.keep B (fun g hg e=>e.elim (R.sep.j g hg).1 (fun e=>(R.sep.j g hg).2.2.1 e)),R.pl,fun m hm=>(R.labels m hm).keep B (fun e=>e.elim (R.sep.m m hm) (fun e=>(R.sep.c m e).2 hm)),⟨R.sep.m,fun j hj=>⟨(A j hj).1,(A j hj).2.1⟩,fun j hj=>⟨(R.sep.k j hj).1,(R.sep.k j hj).2.1,fun e=>(A j e).2.2.1 hj⟩,fun j hj=>⟨(R.sep.n j hj).1,(R.sep.n j hj).2.1,fun e=>(A j e).2.2.2.1 hj,(R.sep.n j hj).2.2.2⟩,fun j hj=>⟨(R.sep.j j hj).1,(R.sep.j j hj).2.1,fun e=>(A j e).2.2.2.2 hj,(R.sep.j j hj).2.2.2.1,(R.sep.j j hj).2.2.2.2⟩⟩⟩,B.mono (fun j _ e=>e.elim .inl (fun e=>.inr (.inr (.inl e)))),fun j hj=> ?_,rfl⟩;rcases hj with e|e|e|e|e|e
 .exact .inl (.inl e)
 .exact .inl (.inr (.inl e))
 .exact(hf j e).elim (fun h1=>.inl (.inr (.inr (.inl h1)))) .inr
 .exact .inl (.inr (.inr (.inr (.inl e))))
 .exact .inl (.inr (.inr (.inr (.inr (.inl e)))))
 .exact .inl (.inr (.inr (.inr (.inr (.inr e)))))
theorem RS.setConsts (R:RS W tr ti tv ts tj Z b v st){w1:World}{v1:Value}{l1:List Val}(hr:VRow (fun j=>(¬RO v b j/\Z j)/\¬v1.ownBlock=some j) w1 tv v1 l1)(K:Keeps (fun j=>v.vk.ownBlock=some j) W w1)(hf:∀g,v1.ownBlock=some g->v.vk.ownBlock=some g\/W.heap.size<=g):
  RS (w1.setCell ⟨b,1,none⟩ v1) tr ti tv ts tj Z b {v with vk:=v1} {st with consts:=l1}/\RK b v W {v with vk:=v1} (w1.setCell ⟨b,1,none⟩ v1):=by
 have D:v.vk.ownBlock≠some b:=fun e=>(R.sep.k b e).1 rfl;have G:w1.heap[b]? =some (.cells #[v.vc,v.vk,v.vn,v.pl,.map v.mb,v.vj] tr (0,0)):=(K.block b (zlt R.h) D).trans R.h;have E:Keeps (fun j=>j=b) w1 (w1.setCell ⟨b,1,none⟩ v1):=Keeps.setCell (S:=fun j=>j=b) (p:=⟨b,1,none⟩) (Keeps.refl _ _) (.inl rfl) _;have B:Keeps (fun j=>j=b\/v.vk.ownBlock=some j) W (w1.setCell ⟨b,1,none⟩ v1):=(K.mono (fun _ _ e=>.inr e)).trans E (fun _ _ e=>.inl e);have A:∀j,v1.ownBlock=some j->j≠b/\v.mb≠some j/\v.vc.ownBlock≠some j/\v.vn.ownBlock≠some j/\v.vj.ownBlock≠some j:=fun j hj=>by
  rcases hf j hj with h|h
  .exact⟨(R.sep.k j h).1,(R.sep.k j h).2.1,(R.sep.k j h).2.2,fun e=>(R.sep.n j e).2.2.2 h,fun e=>(R.sep.j j e).2.2.2.1 h⟩
  .exact⟨(fun e=>by have:=R.lt (j:=j) (.inl e);omega),(fun e=>by have:=R.lt (j:=j) (.inr (.inl e));omega),(fun e=>by have:=R.lt (j:=j) (.inr (.inr (.inl e)));omega),(fun e=>by have:=R.lt (j:=j) (.inr (.inr (.inr (.inr (.inl e)))));omega),(fun e=>by have:=R.lt (j:=j) (.inr (.inr (.inr (.inr (.inr e)))));omega)⟩
 have F:∀j,RO v b j->j<W.heap.size:=fun j=>R.lt;have C:VRow (fun j=>¬RO {v with vk:=v1} b j/\Z j) (w1.setCell ⟨b,1,none⟩ v1) tv v1 l1:=by
  refine(hr.keep E (fun g h e=>h.1.1 (.inl e)) (fun g hg=>(A g hg).1)).mono (fun j h _=>⟨fun e=> ?_,h.1.2⟩);rcases e with e|e|e|e|e|e
  .exact h.1.1 (.inl e)
  .exact h.1.1 (.inr (.inl e))
  .exact h.1.1 (.inr (.inr (.inl e)))
  .exact h.2 e
  .exact h.1.1 (.inr (.inr (.inr (.inr (.inl e)))))
  .exact h.1.1 (.inr (.inr (.inr (.inr (.inr e)))))
 refine⟨⟨by simp[World.setCell,zni,G],R.code.keep B (fun g hg e=>e.elim (R.sep.c g hg).1 (fun e=>(R.sep.k g e).2.2 hg)),C,R.names.keep B (fun g hg e=>e.elim (R.sep.n g hg).1 (fun e=>(R.sep.n g hg).2.2.2 e)),R.jumps.keep B (fun g hg e=>e.elim (R.sep.j g hg).1 (fun e=>(R.sep.j g hg).2.2.2.1 e)),R.pl,fun m hm=>(R.labels m hm).keep B (fun e=>e.elim (R.sep.m m hm) (fun e=>(R.sep.k m e).2.1 hm)),⟨R.sep.m,R.sep.c,fun j hj=>⟨(A j hj).1,(A j hj).2.1,(A j hj).2.2.1⟩,fun j hj=>⟨(R.sep.n j hj).1,(R.sep.n j hj).2.1,(R.sep.n j hj).2.2.1,fun e=>(A j e).2.2.2.1 hj⟩,fun j hj=>⟨(R.sep.j j hj).1,(R.sep.j j hj).2.1,(R.sep.j j hj).2.2.1,fun e=>(A j e).2.2.2.2 hj,(R.sep.j j hj).2.2.2.2⟩⟩⟩,B.mono (fun j _ e=>e.elim .inl (fun e=>.inr (.inr (.inr (.inl e))))),fun j hj=> ?_,rfl⟩;rcases hj with e|e|e|e|e|e
 .exact .inl (.inl e)
 .exact .inl (.inr (.inl e))
 .exact .inl (.inr (.inr (.inl e)))
 .exact(hf j e).elim (fun h1=>.inl (.inr (.inr (.inr (.inl h1))))) .inr
 .exact .inl (.inr (.inr (.inr (.inr (.inl e)))))
 .exact .inl (.inr (.inr (.inr (.inr (.inr e)))))
end
def yod (s:ByteArray):List ByteArray->Nat->Option Nat
 |[],_=>none
 |x::r,i=>bif s.data.toList==x.data.toList then some i else yod s r (i+1)
def yoV (s:ByteArray)(l:List ByteArray):Nat×List ByteArray:=
 match yod s l 0 with
 |some i=>(i,l)
 |none=>(l.length,l++[s])
def yiX (x:Val):List Val->Nat->Option Nat
 |[],_=>none
 |y::r,i=>bif cmpV x y==0 then some i else yiX x r (i+1)
def yfV (x:Val)(l:List Val):Nat×List Val:=
 match yiX x l 0 with
 |some i=>(i,l)
 |none=>(l.length,l++[x])
end Go.Va
namespace Go.Proofs.YtpagmlndgblhhaaGreatDoor
open Go.RowKit Go.Own Go.Own.MapTy Go.Va Go.Sort
open Go.Own.Cells (sz enc)
abbrev RX (Z:Nat->Prop)(W:World)(b:Nat)(v:RV)(st:RSt):Prop:=RS W 97 106 38 9 103 Z b v st
def yp5 (Z:Nat->Prop)(W:World)(b:Nat)(v:RV)(r:Value)(st:RSt)(e:Ending)(w':World):Prop:=∃v',e= .returned r/\Hid (RX Z w' b v' st/\RK b v W v' w')
theorem ypQ:ElemOf ByteArray Tryz.prog 26 9 16:=ycj Tryz.underlying26 (z:=.string .empty) (n:=1) (by kernel_rfl) rfl rfl
theorem ygS {wr w1:World}{X:Obj}{ks:List VC}{z:VC}{a a1:Option Addr}{cap q1 n b B:Nat}{T:TypeId}(hn:ks.length=n)(hr:RowAt w1 T (.slice a1 (n+1) q1) (ks++[z]))(hk:Keeps (fun j=>(Value.slice a n cap).ownBlock=some j) (wr.drew.alloc X) w1)(hf:∀g,(Value.slice a1 (n+1) q1).ownBlock=some g->(Value.slice a n cap).ownBlock=some g\/(wr.drew.alloc X).heap.size<=g)
  (hb:b<wr)(hB:B<wr.heap.size)(nb:∀g,(Value.slice a n cap).ownBlock=some g->g≠b/\g≠B):
  ∃g1 off1,a1=some ⟨g1,off1,none⟩/\(w1.cell? ⟨g1,off1+n*4,none⟩=some (.int .i64 z.kind)/\w1.cell? ⟨g1,off1+n*4+1,none⟩=some (.int .i64 z.n)/\w1.cell? ⟨g1,off1+n*4+2,none⟩=some (.string z.s)/\w1.cell? ⟨g1,off1+n*4+3,none⟩=some (.slice z.la z.ln z.lc))/\
   (∀o,w1.frozen? ⟨g1,o,none⟩=false)/\(∀o,w1.cell? ⟨b,o,none⟩=wr.cell? ⟨b,o,none⟩)/\(∀o,w1.frozen? ⟨b,o,none⟩=wr.frozen? ⟨b,o,none⟩)/\(∀o,w1.cell? ⟨B,o,none⟩=wr.cell? ⟨B,o,none⟩)/\(¬g1=b/\¬b=g1/\¬g1=B/\¬B=g1)/\g1<w1.heap.size/\b<w1/\B<w1.heap.size:=by
 have I:(ks++[z])[n]? =some z:=by rw[List.getElem?_append_right (by omega),hn];simp
 obtain⟨g1,off1,rfl,D⟩:=hr.addr I;have J:=hk.size;simp at J;have F:∀g,g<wr.heap.size->(∀g',(Value.slice a n cap).ownBlock=some g'->g'≠g)->g1≠g:=fun g hg E e=>by
  rcases hf g1 rfl with h|h
  .exact E _ h e
  .simp at h;omega
 have H:=F b hb (fun g' h=>(nb g' h).1);have G:=F B hB (fun g' h=>(nb g' h).2);have c:=fun(j:Nat) (hj:j<4)=>hr.cell I (j:=j) hj;have M:=c 0 (by decide);have E:=c 1 (by decide);have L:=c 2 (by decide);have K:=c 3 (by decide);have C:∀g o,g<wr.heap.size->(∀g',(Value.slice a n cap).ownBlock=some g'->g'≠g)->w1.cell? ⟨g,o,none⟩=wr.cell? ⟨g,o,none⟩:=fun g o hg h=>by
  rw[hk.cell (p:=⟨g,o,none⟩) (by simp;omega) (fun e=>h g e rfl)];exact znt (w:=wr) (zne _ _ _ hg)
 have A:∀g o,g<wr.heap.size->(∀g',(Value.slice a n cap).ownBlock=some g'->g'≠g)->w1.frozen? ⟨g,o,none⟩=wr.frozen? ⟨g,o,none⟩:=fun g o hg h=>by
  rw[hk.frozen (p:=⟨g,o,none⟩) (by simp;omega) (fun e=>h g e rfl)];exact znu (w:=wr) (zne _ _ _ hg)
 refine⟨g1,off1,rfl,⟨M,by rw[zmm];exact E,by rw[zmm];exact L,by rw[zmm];exact K⟩,fun o=>hr.frozen o,fun o=>C b o hb (fun g' h=>(nb g' h).1),fun o=>A b o hb (fun g' h=>(nb g' h).1),fun o=>C B o hB (fun g' h=>(nb g' h).2),⟨H,fun e=>H e.symm,G,fun e=>G e.symm⟩,D,by omega,by omega⟩
theorem yaQ {W:World}{g b o p:Nat}{x y:Value}(h:¬g=b):(W.setCell ⟨b,o,none⟩ x).setCell ⟨g,p,none⟩ y=(W.setCell ⟨g,p,none⟩ y).setCell ⟨b,o,none⟩ x:=by
 simp only[World.setCell]
 congr 1
 refine Array.ext_getElem? fun i=> ?_;simp only[zni];by_cases h1:b=i
 .subst h1
  simp[h]
 .by_cases h2:g=i
  .subst h2
   simp[h1]
  .simp[h1,h2]
theorem yi3 {Z:Nat->Prop}{wr w1:World}{b n a0 g1 off1 cp cap:Nat}{a:Option Addr}{v:RV}{st:RSt}{x:Val}{c z:VC}{ks:List VC}{X:Obj}(R:RX Z wr b v st)(hv:v.vk= .slice a n cap)(hn:ks.length=n)(hcl:ks.length=st.consts.length)(hce:∀(i:Nat) (c:VC) (x:Val),ks[i]? =some c->st.consts[i]? =some x->CF (fun j=>¬RO v b j/\Z j) wr c x)
  (C:CF (fun j=>¬RO v b j/\Z j) wr c x)(hr:RowAt w1 38 (.slice (some ⟨g1,off1,none⟩) (n+1) cp) (ks++[z]))(hk:Keeps (fun j=>(Value.slice a n cap).ownBlock=some j) (wr.drew.alloc X) w1)
  (hf:∀g,(Value.slice (some ⟨g1,off1,none⟩) (n+1) cp).ownBlock=some g->(Value.slice a n cap).ownBlock=some g\/(wr.drew.alloc X).heap.size<=g)(ha:a0=n):
  RX Z (((((w1.setCell ⟨g1,off1+a0*4,none⟩ (.int .i64 c.kind)).setCell ⟨g1,off1+a0*4+1,none⟩ (.int .i64 c.n)).setCell ⟨g1,off1+a0*4+2,none⟩ (.string c.s)).setCell ⟨g1,off1+a0*4+3,none⟩ (.slice c.la c.ln c.lc)).setCell ⟨b,1,none⟩ (.slice (some ⟨g1,off1,none⟩) (n+1) cp)) b {v with vk:=.slice (some ⟨g1,off1,none⟩) (n+1) cp} {st with consts:=st.consts++[x]}/\
  RK b v wr {v with vk:=.slice (some ⟨g1,off1,none⟩) (n+1) cp} (((((w1.setCell ⟨g1,off1+a0*4,none⟩ (.int .i64 c.kind)).setCell ⟨g1,off1+a0*4+1,none⟩ (.int .i64 c.n)).setCell ⟨g1,off1+a0*4+2,none⟩ (.string c.s)).setCell ⟨g1,off1+a0*4+3,none⟩ (.slice c.la c.ln c.lc)).setCell ⟨b,1,none⟩ (.slice (some ⟨g1,off1,none⟩) (n+1) cp)):=by
 subst ha;have G:Below wr wr (wr.drew.alloc X):=((znv _ _).drew).alloc (znc _) _;have J:Keeps (fun _=>False) wr (wr.drew.alloc X):=zkb G;have M:=R.ext G;have H:=hr.set (i:=a0) (by simp;omega) c;have L:(ks++[z]).set a0 c=ks++[c]:=by
  rw[List.set_append_right _ _ (by omega),show a0 - ks.length=0 from by omega];rfl
 rw[L]at H;have E:RowAt ((((w1.setCell ⟨g1,off1+a0*4,none⟩ (.int .i64 c.kind)).setCell ⟨g1,off1+a0*4+1,none⟩ (.int .i64 c.n)).setCell ⟨g1,off1+a0*4+2,none⟩ (.string c.s)).setCell ⟨g1,off1+a0*4+3,none⟩ (.slice c.la c.ln c.lc)) 38 (.slice (some ⟨g1,off1,none⟩) (a0+1) cp) (ks++[c]):=H;have K:(fun j=>(Value.slice a a0 cap).ownBlock=some j)=(fun j=>v.vk.ownBlock=some j):=by rw[hv]
 have A:∀g,(Value.slice (some ⟨g1,off1,none⟩) (a0+1) cp).ownBlock=some g->v.vk.ownBlock=some g\/(wr.drew.alloc X).heap.size<=g:=by rw[hv];exact hf
 have D:(Value.slice a a0 cap).ownBlock=some g1\/(wr.drew.alloc X).heap.size<=g1:=hf g1 rfl;have I:Keeps (fun j=>v.vk.ownBlock=some j) (wr.drew.alloc X) ((((w1.setCell ⟨g1,off1+a0*4,none⟩ (.int .i64 c.kind)).setCell ⟨g1,off1+a0*4+1,none⟩ (.int .i64 c.n)).setCell ⟨g1,off1+a0*4+2,none⟩ (.string c.s)).setCell ⟨g1,off1+a0*4+3,none⟩ (.slice c.la c.ln c.lc)):=by
  rw[K]at hk;rw[hv]at hk|-;exact(((hk.setCell (p:=⟨g1,off1+a0*4,none⟩) D _).setCell (p:=⟨g1,off1+a0*4+1,none⟩) D _).setCell (p:=⟨g1,off1+a0*4+2,none⟩) D _).setCell (p:=⟨g1,off1+a0*4+3,none⟩) D _
 have V:VRow (fun j=>(¬RO v b j/\Z j)/\¬(Value.slice (some ⟨g1,off1,none⟩) (a0+1) cp).ownBlock=some j) ((((w1.setCell ⟨g1,off1+a0*4,none⟩ (.int .i64 c.kind)).setCell ⟨g1,off1+a0*4+1,none⟩ (.int .i64 c.n)).setCell ⟨g1,off1+a0*4+2,none⟩ (.string c.s)).setCell ⟨g1,off1+a0*4+3,none⟩ (.slice c.la c.ln c.lc)) 38 (.slice (some ⟨g1,off1,none⟩) (a0+1) cp) (st.consts++[x]):=by
  refine VRow.app (F:=fun j=>(¬RO v b j/\Z j)/\j<wr) (w:=wr.drew.alloc X) (v:=v.vk) hcl (fun i c x B h2=>((hce i c x B h2).mono (fun g h l=>⟨h,l⟩)).keep J (fun _ _ f=>f)) ((C.mono (fun g h l=>⟨h,l⟩)).keep J (fun _ _ f=>f)) E I (fun g h e=>h.1.1 (.inr (.inr (.inr (.inl e))))) (fun g h _=>⟨h.1,fun e=> ?_⟩);rcases A g e with B|B
  .exact h.1.1 (.inr (.inr (.inr (.inl B))))
  .have:=h.2;simp at B;omega
 have S:=M.setConsts V I A;exact⟨S.1,(RK.ext G).trans S.2⟩
def yqK (W:World)(x:Val)(l:List Val)(gk:Nat)(v12:Value)(wr:World):Prop:=
 ∃i:Nat,v12= .int .i64 i/\i<=l.length/\gk=l.length - i/\yiX x (l.drop i) i=yiX x l 0/\Below W W wr
theorem yi4 {Z:Nat->Prop}(b:Nat)(v:RV)(st:RSt)(x:Val)(ck cn:Int)(cs:ByteArray)(la:Option Addr)(ln lc:Nat)(W:World)(R:RX Z W b v st)(C:CF (fun j=>¬RO v b j/\Z j) W ⟨ck,cn,cs,la,ln,lc⟩ x)(hl:st.consts.length<=4294967296)(i0:Nat)(l':List Val)(hr:yfV x st.consts=(i0,l')):
  Calls Tryz.prog 129 #[.pointer (some ⟨b,0,none⟩),.agg #[ck,cn,cs,.slice la ln lc]] W (yp5 Z W b v (.int .i64 i0) {st with consts:=l'}):=by
 obtain⟨vc,vk,vn,vj,pl,mb⟩:=v;obtain⟨a,cap,rfl⟩:∃a cap,vk= .slice a st.consts.length cap:=R.consts.slice;have b0:=zlt R.h;have c1:=zca R.h 1 rfl;have f0:∀o,W.frozen? ⟨b,o,none⟩=false:=fun o=>zfr R.h o;have el:=(R.consts.vf (G:=fun _=>True) (fun _ _=>trivial) (fun _ _=>trivial)).elems.2.2;unfold yfV at hr;have L:=zh4 R hr el C;clear R hr el C;go_in;go_wp2_with fail;obtain⟨H,E⟩:∃H,H=W.alloc (.cells #[ck,cn,cs,.slice la ln lc] 38):=⟨_,rfl⟩;have B0:=zba E;have q:∀o,H.cell? ⟨W,o,none⟩=(#[.int .i64 ck,.int .i64 cn,.string cs,.slice la ln lc]:Array Value)[o]? :=fun o=>by rw[E,zch (znb _ _)]
 have Y:H.heap.size=W.heap.size+1:=by rw[E];simp
 rw[<-E];have F:=zh3 B0 q Y;clear E B0 q Y c1 f0;go_loopg [12] (st.consts.length) (fun gk v12 wr=>yqK H x st.consts gk v12 wr)
 case atStart=>exact⟨0,rfl,znq _,rfl,rfl,znv _ _⟩
 case round=>
  obtain⟨i,rfl,hi,Q,M,K⟩:=hrel;have q0:=(K.cell (p:=⟨W,0,none⟩) (show W<H.heap.size by have:=F.o.2.2;omega)).trans (F.o.2.1 0);have q1:=(K.cell (p:=⟨W,1,none⟩) (show W<H.heap.size by have:=F.o.2.2;omega)).trans (F.o.2.1 1);have q2:=(K.cell (p:=⟨W,2,none⟩) (show W<H.heap.size by have:=F.o.2.2;omega)).trans (F.o.2.1 2);have q3:=(K.cell (p:=⟨W,3,none⟩) (show W<H.heap.size by have:=F.o.2.2;omega)).trans (F.o.2.1 3);simp only[zmc,zma,zmb]at q0 q1 q2 q3;have Ad:=K.size;have lr:W<wr.heap.size:=by have:=F.o.2.2;omega
  have N:=F.o.1.trans (K.mono (show W<=H.heap.size by have:=F.o.2.2;omega));by_cases hin:i<st.consts.length
  .obtain⟨y,hy⟩:=yae hin
   have z:st.consts.drop i=y::st.consts.drop (i+1):=by
    rw[znr (zge hy).1,(zge hy).2]
   rw[z,yiX]at M;obtain⟨g,Ag,ha,_,V,t⟩:=L.o.2.2.1.resolve_left (fun e=>by rw[e]at hin;simp at hin);obtain⟨d,hD,m0,m1,m2,m3⟩:=t i y hy;subst ha;have Aj:g<wr:=by omega
   rw[<-N.cell (p:=⟨g,_,none⟩) V]at m0 m1 m2 m3;have Af:(i:Int)<st.consts.length:=by omega
   have K1:Keeps (fun _=>False) W (wr.alloc (.cells #[d.kind,d.n,d.s,.slice d.la d.ln d.lc] 38)):=(zkb N).alloc _;have SA:=zhd (fun bb hb=>yfx x y ⟨ck,cn,cs,la,ln,lc⟩ d _ _ _ (L.o.2.2.2.keep K1 (fun _ _ f=>f)) (hD.keep K1 (fun _ _ f=>f)) bb hb);cases hq:(cmpV x y==0)
   all_goals
    rw[hq]at M;simp only[znm,znl]at M;have D:=zh4 M Q K N;have SB:=zhd (SA.o _ hq);clear M Q hq z hy K N t hD K1 SA;go_wp2_with fail;refine SB.o.mono ?_;rintro e w5 ⟨rfl,Ac⟩;have H5:=zhd (show Below wr wr w5 from(zal).trans (Ac.mono (by simp)));clear Ac SB;go_wp2_with fail
   .go_roundg (st.consts.length - (i+1))
    case measure=>have:=D.o.2.1;omega
    case rel=>exact⟨i+1,by simp,by omega,rfl,D.o.1,D.o.2.2.1.trans (H5.o.mono Ad)⟩
   .have hr:=L.o.2.1
    rw[<-D.o.1]at hr;cases hr;have BE:=D.o.2.2.2.trans (H5.o.mono (zmn lr));go_ret;exact⟨_,rfl,zhd ⟨L.o.1.ext BE,RK.ext BE⟩⟩
  .obtain rfl:i=st.consts.length:=by omega
   rw[zns (znc _),yiX]at M;have hr:=L.o.2.1;rw[<-M]at hr;cases hr;have D:=zh3 (L.o.1.ext N) N (L.o.2.2.2.keep (zkb (S:=fun _=>False) N) (fun _ _ f=>f));have c1:=zca D.o.1.h 1 rfl;have f0:∀o,wr.frozen? ⟨b,o,none⟩=false:=fun o=>zfr D.o.1.h o;have b1:b<wr:=zlt D.o.1.h;have Ae:=zhd (show∀g,(Value.slice a st.consts.length cap).ownBlock=some g->g<W.heap.size from fun g V=>L.o.1.lt (.inr (.inr (.inr (.inl V)))));clear L M Q K N;obtain⟨ks,hR,Aa,Ab⟩:=D.o.1.consts;have X:=zh3 hR Aa Ab;clear hR Aa Ab;have nb:∀g,(Value.slice a st.consts.length cap).ownBlock=some g->g≠b/\g≠W.heap.size:=fun g V=>⟨(D.o.1.sep.k g V).1,fun e=>by have:=Ae.o g V;omega⟩;have Ah:(st.consts.length:Int)<(st.consts.length:Int)+1:=by omega
   have Ai:(0:Int)<=(st.consts.length:Int):=by omega
   have NB:=zhd nb;have n6:¬W.heap.size=b:=by have:=zlt D.o.1.h;have:=D.o.2.1.size;omega
   have U:=zhd (show(ks.length+[(⟨0,0,⟨#[]⟩,none,0,0⟩:VC)].length)*56<=140737488355328/\ks.length+[(⟨0,0,⟨#[]⟩,none,0,0⟩:VC)].length<=maxLen/\ks.length+[(⟨0,0,⟨#[]⟩,none,0,0⟩:VC)].length=st.consts.length+1 from by have:=X.o.2.1;unfold maxLen;simp;omega);clear nb;go_wp2_with fail;go_region_law ((refine yaC (α:=VC) (o:=⟨some 29,_,_,_,_,_⟩) yfO (by rfl) (.tmp 25) (.tmp 28) (by rfl) (v:=.slice a st.consts.length cap) (u:=.slice (some ⟨wr,0,none⟩) 1 1) (by rfl) (by rfl) (xs:=ks) (ys:=[⟨0,0,⟨#[]⟩,none,0,0⟩]) ((X.o.1.drew).alloc _) (RowAt.lit (α:=VC) (y:=⟨0,0,⟨#[]⟩,none,0,0⟩) (znb _ _)) U.o.1 U.o.2.1 (st.consts.length+1) U.o.2.2 ?_;intro a1 cp w1 O P T;obtain⟨I,A,rfl,⟨m0,m1,m2,m3⟩,fm,ob,l,m,⟨n1,n2,n3,n4⟩,l1,l2,l3⟩:=ygS (b:=b) (B:=W.heap.size) X.o.2.1 O P T b1 lr NB.o;have y1:=(ob 1).trans c1;have y2:=(m 0).trans q0;have y3:=(m 1).trans q1;have y4:=(m 2).trans q2;have y5:=(m 3).trans q3;have y6:=fun o=>(l o).trans (f0 o);have FF:=zh3 O P T;clear O P T ob l m))
   all_goals
    obtain⟨w4,J⟩:∃w4,w4=((((w1.setCell ⟨I,A+st.consts.length*4,none⟩ (.int .i64 ck)).setCell ⟨I,A+st.consts.length*4+1,none⟩ (.int .i64 cn)).setCell ⟨I,A+st.consts.length*4+2,none⟩ (.string cs)).setCell ⟨I,A+st.consts.length*4+3,none⟩ (.slice la ln lc)).setCell ⟨b,1,none⟩ (.slice (some ⟨I,A,none⟩) (st.consts.length+1) cp):=⟨_,rfl⟩;have r:w4=((((w1.setCell ⟨b,1,none⟩ (.slice (some ⟨I,A,none⟩) (st.consts.length+1) cp)).setCell ⟨I,A+st.consts.length*4,none⟩ (.int .i64 ck)).setCell ⟨I,A+st.consts.length*4+1,none⟩ (.int .i64 cn)).setCell ⟨I,A+st.consts.length*4+2,none⟩ (.string cs)).setCell ⟨I,A+st.consts.length*4+3,none⟩ (.slice la ln lc):=by rw[J,yaQ n1,yaQ n1,yaQ n1,yaQ n1]
    first
    |rw[<-J]
    |rw[<-r]
    have S:=yi3 (c:=⟨ck,cn,cs,la,ln,lc⟩) (x:=x) D.o.1 rfl X.o.2.1 X.o.2.1 X.o.2.2 D.o.2.2 FF.o.1 FF.o.2.1 FF.o.2.2 rfl;rw[<-J]at S;have HS:=zhd S;have d1:=zca S.1.h 1 rfl;have Ak:b<w4:=zlt S.1.h;clear S J r y1 y2 y3 y4 y5 y6 m0 m1 m2 m3 fm c1 f0 q0 q1 q2 q3;go_wp2;go_ret;exact⟨_,rfl,zhd ⟨HS.o.1,(RK.ext D.o.2.1).trans HS.o.2⟩⟩
def operL (kind line:Int)(s:ByteArray)(st:RSt):Int×Int×RSt:=
 if kind=1 then(if(yc0 s.data.toList).2≠0 then(0,(yc0 s.data.toList).2,st)else((yfV (yc0 s.data.toList).1 st.consts).1,0,{st with consts:=(yfV (yc0 s.data.toList).1 st.consts).2}))else
 if kind=2 then(match ym6 s.data.toList with
  |none=>(0,8,st)
  |some n=>((yoV n st.names).1,0,{st with names:=(yoV n st.names).2}))else
 if kind=4 then(if yqk s.data.toList=true then(0,0,{st with jumps:=st.jumps++[⟨st.code.length,line,s⟩]})else(0,8,st))else
 match yne s.data.toList with
 |none=>(0,8,st)
 |some n=>(n,0,if kind=3 then{st with places:=max st.places (n+1)}else st)
def yo8 (Z:Nat->Prop)(W:World)(b:Nat)(v:RV)(r:Int×Int×RSt)(e:Ending)(w':World):Prop:=∃v',e= .returned (.tuple #[.int .i64 r.1,.int .i64 r.2.1])/\Hid (RX Z w' b v' r.2.2/\RK b v W v' w')
end Go.Proofs.YtpagmlndgblhhaaGreatDoor
namespace Go.Va
open Go.Own Go.RowKit Go.Own.MapTy
def yjP (s:ByteArray):ByteArray:=⟨(Lib.trimSuffix s.data.toList [58]).toArray⟩
def ykC (s:ByteArray):Bool:=Lib.hasSuffix s.data.toList [58]&&yqk (yjP s).data.toList
def ygU (s:ByteArray):ByteArray:=⟨(Lib.cut (Lib.trimPrefix s.data.toList [32,32]) [32]).1.toArray⟩
def yda (s:ByteArray):ByteArray:=⟨(Lib.cut (Lib.trimPrefix s.data.toList [32,32]) [32]).2.1.toArray⟩
def ylk (s:ByteArray):Bool:=(Lib.cut (Lib.trimPrefix s.data.toList [32,32]) [32]).2.2
end Go.Va
namespace Go.Proofs.YtpagmlndgblhhaaGreatDoor
open Go.RowKit Go.Own Go.Own.MapTy Go.Va Go.Sort
open Go.Own.Cells (sz enc)
def lineL (n:Int)(s:ByteArray)(st:RSt):Int×RSt:=
 if ykC s=true then(if(MapTy.get st.labels (yjP s)).isSome=true then(5,st)else(0,{st with labels:=upd st.labels (yjP s) st.code.length}))else
 if Lib.hasPrefix s.data.toList [32,32]=false then(8,st)else
 match yeT (ygU s)with
 |none=>(110,st)
 |some op=>
  if ylk s≠((ofL op).1.operand !=0)then(8,st)else
  if ylk s=true then(if(operL (ofL op).1.operand n (yda s) st).2.1≠0 then((operL (ofL op).1.operand n (yda s) st).2.1,(operL (ofL op).1.operand n (yda s) st).2.2)else
   (0,{(operL (ofL op).1.operand n (yda s) st).2.2 with code:=(operL (ofL op).1.operand n (yda s) st).2.2.code++[⟨op,(operL (ofL op).1.operand n (yda s) st).1⟩]}))else
  (0,{st with code:=st.code++[⟨op,0⟩]})
theorem ypp (x y:ByteArray):(x==y)=decide (x=y):=by
 show(x.data==y.data)=decide (x=y);rw[Bool.eq_iff_iff];simp[ByteArray.ext_iff]
theorem ymK (n:Nat)(em:Bool)(W:World)(x:ByteArray):(Instr.checkKey em (n+1) 9 (.string x)).run Tryz.prog W= .ok () W:=by simp[Instr.checkKey,go_sem]
theorem yqt:KLaw SM Tryz.prog 9:=KLaw.of_now Tryz.underlying9 (fun W em x=>ymK 9999 em W x) (fun x y=>by simp[SM,Instr.sameNow];exact ypp x y) (fun x=>by simp[SM,Instr.sameBits];exact(ypp x x).trans (by simp))
theorem ylV {w:World}{b:Nat}{m:List (ByteArray×Int)}(h:MapAt SM w b m)(x:ByteArray):∀W:World,ycU w b W->(Instr.lookup 94 (.map (some b)) (.string x) true).run Tryz.prog W= .ok (.tuple #[.int .i64 ((MapTy.get m x).getD 0),(MapTy.get m x).isSome]) W:=by
 intro W A;have:=h.lookS yqt Tryz.underlying94 (z:=.int .i64 0) (fun W=>by kernel_rfl) x true W A;cases hg:MapTy.get m x with
 |none=>rw[hg]at this;exact this
 |some n=>rw[hg]at this;exact this
def ynX (Z:Nat->Prop)(W:World)(b:Nat)(v:RV)(r:Int×RSt)(e:Ending)(w':World):Prop:=∃v',e= .returned (.int .i64 r.1)/\Hid (RX Z w' b v' r.2/\RK b v W v' w')
theorem ynG:ElemOf In Tryz.prog 24 106 16:=ycj Tryz.underlying24 (z:=.agg #[.int .i64 0,.int .i64 0]) (n:=2) (by kernel_rfl) rfl rfl
theorem yhG (s:ByteArray):(yda s).size<=s.size/\(ygU s).size<=s.size/\(Lib.trimPrefix s.data.toList [32,32]).length<=s.size:=by
 have C:(Lib.trimPrefix s.data.toList [32,32]).length<=s.size:=by
  unfold Lib.trimPrefix;split
  .simp
  .simp
 have B:(yda s).size=(Lib.cut (Lib.trimPrefix s.data.toList [32,32]) [32]).2.1.length:=by show(Lib.cut (Lib.trimPrefix s.data.toList [32,32]) [32]).2.1.toArray.size=_;simp
 have A:(ygU s).size=(Lib.cut (Lib.trimPrefix s.data.toList [32,32]) [32]).1.length:=by show(Lib.cut (Lib.trimPrefix s.data.toList [32,32]) [32]).1.toArray.size=_;simp
 rw[B,A];unfold Lib.cut;split
 .simp;omega
 .simp;omega
theorem yje (kind line:Int)(s:ByteArray)(st:RSt):(operL kind line s st).2.2.code=st.code:=by
 unfold operL;split
 .split<;>rfl
 .split
  .split<;>rfl
  .split
   .split<;>rfl
   .split
    .rfl
    .dsimp only
     split<;>rfl
end Go.Proofs.YtpagmlndgblhhaaGreatDoor
namespace Go.Va
open Go.Own Go.RowKit
open Cells (sz enc)
theorem RdF.elems {α:Type}[Cells α]{F:Nat->Prop}{w:World}{a:Option Addr}{n cap:Nat}{xs:List α}(h:RdF F w (.slice a n cap) xs):n=xs.length/\n<=maxLen/\∃g off,(a=some ⟨g,off,none⟩\/xs=[])/\∀(i:Nat) (x:α),xs[i]? =some x->F g/\g<w.heap.size/\∀j u,(enc x)[j]? =some u->w.cell? ⟨g,off+(i*sz α+j),none⟩=some u:=by
 have I:=h.length_le;obtain⟨P,H,hv,N,M,G⟩:=h;cases hv;refine⟨rfl,I,?_⟩;cases xs with
 |nil=>exact⟨0,0,.inr rfl,fun i x hx=>by simp at hx⟩
 |cons y r=>
  obtain⟨g,off,E,L,K,_⟩:=G 0 y rfl;refine⟨g,off,.inl E,fun i x hx=> ?_⟩;obtain⟨O,D,A,C,B,J⟩:=G i x hx;rw[E]at A;cases A;exact⟨C,B,J⟩
structure Img where
 code:List In
 consts:List Val
 names:List ByteArray
 places:Int
structure IC where
 ca:Option Addr
 cn:Nat
 cc:Nat
 ka:Option Addr
 kn:Nat
 kc:Nat
 na:Option Addr
 nn:Nat
 nc:Nat
 pl:Int
def IC.cells (i:IC):Array Value:=#[.slice i.ca i.cn i.cc,.slice i.ka i.kn i.kc,.slice i.na i.nn i.nc,.int .i64 i.pl]
structure IAt (F:Nat->Prop)(w:World)(i:IC)(p:Img):Prop where
 code:RdF F w (.slice i.ca i.cn i.cc) p.code
 consts:VF F w (.slice i.ka i.kn i.kc) p.consts
 names:RdF F w (.slice i.na i.nn i.nc) p.names
 pl:i.pl=p.places
theorem IAt.keep {F S:Nat->Prop}{w w':World}{i:IC}{p:Img}(h:IAt F w i p)(K:Keeps S w w')(hs:∀g,F g->¬S g):IAt F w' i p:=⟨h.code.keep K hs,h.consts.keep K hs,h.names.keep K hs,h.pl⟩
theorem IAt.mono {F G:Nat->Prop}{w:World}{i:IC}{p:Img}(h:IAt F w i p)(hs:∀g,F g->g<w.heap.size->G g):IAt G w i p:=⟨h.code.mono hs,h.consts.mono hs,h.names.mono hs,h.pl⟩
theorem IAt.lens {F:Nat->Prop}{w:World}{i:IC}{p:Img}(h:IAt F w i p):i.cn=p.code.length/\i.kn=p.consts.length/\i.nn=p.names.length:=⟨h.code.elems.1,h.consts.elems.1,h.names.elems.1⟩
def mostL (p:Img)(k:Int):Int:=
 bif k==1 then p.consts.length else bif k==2 then p.names.length else bif k==3 then p.places else bif k==4 then p.code.length else bif k==5 then 17 else 1
end Go.Va
namespace Go.Proofs.YtpagmlndgblhhaaGreatDoor
open Go.RowKit Go.Own Go.Own.MapTy Go.Va Go.Sort
open Go.Own.Cells (sz enc)
theorem ylU (F:Nat->Prop)(w:World)(i:IC)(p:Img)(k:Int)(H:IAt F w i p):Calls Tryz.prog 94 #[.agg #[.slice i.ca i.cn i.cc,.slice i.ka i.kn i.kc,.slice i.na i.nn i.nc,i.pl],k] w fun e w'=>e= .returned (.int .i64 (mostL p k))/\Below w w w':=by
 obtain⟨E,D,C⟩:=H.lens;have B:=H.pl;have A:mostL p k=bif k==1 then(i.kn:Int)else bif k==2 then(i.nn:Int)else bif k==3 then i.pl else bif k==4 then(i.cn:Int)else bif k==5 then 17 else 1:=by rw[E,D,C,B];rfl
 rw[A];clear H E D C B A;obtain⟨ca,cn,cc,ka,kn,kc,na,nn,nc,pl⟩:=i;dsimp only;go_in;go_wp2_with fail
 all_goals
  go_ret;exact⟨by simp only[*,znm,znl];rfl,zal⟩
def ybF (p:Img):List In->Int
 |[]=>0
 |c::r=>bif !(ofL c.op).2 then 110 else bif decide (c.a<0)||decide (mostL p (ofL c.op).1.operand<=c.a)then 1 else ybF p r
def ybn:List ByteArray->Int
 |[]=>0
 |s::r=>bif decide (64<s.size)then 2 else ybn r
def yaK:List Val->Int
 |[]=>0
 |x::r=>bif checkL x !=0 then checkL x else yaK r
def imgL (p:Img):Int:=
 bif decide (p.code.length=0)then 6 else
 bif decide (512<p.code.length)||(decide (64<p.consts.length)||decide (32<p.names.length))then 2 else
 bif decide (p.places<0)||decide (16<p.places)then 1 else
 bif yaK p.consts !=0 then yaK p.consts else
 bif ybn p.names !=0 then ybn p.names else ybF p p.code
theorem yhH
  (F:Nat->Prop)(w:World)(i:IC)(p:Img)(H:IAt F w i p)(r:Int)
  (h:p.code.length=0)(hr:r=6):
  Calls Tryz.prog 48 #[.agg #[.slice i.ca i.cn i.cc,.slice i.ka i.kn i.kc,.slice i.na i.nn i.nc,i.pl]] w fun e w'=>e= .returned (.int .i64 r)/\Below w w w'
  :=by
 subst hr;have A:=H.lens.1;obtain⟨ca,cn,cc,ka,kn,kc,na,nn,nc,pl⟩:=i;obtain rfl:cn=0:=by rw[<-h];exact A
 clear H h A;dsimp only;go_in;go_wp2;go_ret;exact⟨rfl,zal⟩
theorem yjw
  (F:Nat->Prop)(w:World)(i:IC)(p:Img)(H:IAt F w i p)(r:Int)
  (h0:¬p.code.length=0)(h:512<p.code.length\/64<p.consts.length\/32<p.names.length)(hr:r=2):
  Calls Tryz.prog 48 #[.agg #[.slice i.ca i.cn i.cc,.slice i.ka i.kn i.kc,.slice i.na i.nn i.nc,i.pl]] w fun e w'=>e= .returned (.int .i64 r)/\Below w w w'
  :=by
 subst hr;obtain⟨C,B,A⟩:=H.lens;obtain⟨ca,cn,cc,ka,kn,kc,na,nn,nc,pl⟩:=i;dsimp only at C B A;rw[<-C]at h h0;rw[<-B,<-A]at h;clear H C B A;have I:((cn:Int)==0)=false:=by rw[zna];omega
 dsimp only;go_in;by_cases g1:512<cn
 .have E:(512:Int)<cn:=by omega
  clear h h0;go_wp2;go_ret;exact⟨rfl,zal⟩
 .have E:¬(512:Int)<cn:=by omega
  by_cases g2:64<kn
  .have D:(64:Int)<kn:=by omega
   clear h h0;go_wp2;go_ret;exact⟨rfl,zal⟩
  .have D:¬(64:Int)<kn:=by omega
   have G:(32:Int)<nn:=by omega
   clear h h0;go_wp2;go_ret;exact⟨rfl,zal⟩
theorem ygI
  (F:Nat->Prop)(w:World)(i:IC)(p:Img)(H:IAt F w i p)(r:Int)
  (h0:¬p.code.length=0)(h:p.code.length<=512/\p.consts.length<=64/\p.names.length<=32)(hp:p.places<0\/16<p.places)(hr:r=1):
  Calls Tryz.prog 48 #[.agg #[.slice i.ca i.cn i.cc,.slice i.ka i.kn i.kc,.slice i.na i.nn i.nc,i.pl]] w fun e w'=>e= .returned (.int .i64 r)/\Below w w w'
  :=by
 subst hr;obtain⟨D,C,B⟩:=H.lens;have A:=H.pl;obtain⟨ca,cn,cc,ka,kn,kc,na,nn,nc,pl⟩:=i;dsimp only at D C B A;rw[<-D]at h h0;rw[<-C,<-B]at h;rw[<-A]at hp;clear H D C B A;have K:((cn:Int)==0)=false:=by rw[zna];omega
 have J:¬(512:Int)<cn:=by omega
 have I:¬(64:Int)<kn:=by omega
 have G:¬(32:Int)<nn:=by omega
 dsimp only;go_in;by_cases g1:pl<0
 .clear h h0 hp
  go_wp2;go_ret;exact⟨rfl,zal⟩
 .have E:16<pl:=by omega
  clear h h0 hp;go_wp2;go_ret;exact⟨rfl,zal⟩
theorem yjv
  (F:Nat->Prop)(w:World)(i:IC)(p:Img)(H:IAt F w i p)(r:Int)
  (hw:∀x∈p.consts,x.wf)(h0:¬p.code.length=0)(h:p.code.length<=512/\p.consts.length<=64/\p.names.length<=32)(hp:0<=p.places/\p.places<=16)
  (hr:(bif yaK p.consts !=0 then yaK p.consts else bif ybn p.names !=0 then ybn p.names else ybF p p.code)=r):
  Calls Tryz.prog 48 #[.agg #[.slice i.ca i.cn i.cc,.slice i.ka i.kn i.kc,.slice i.na i.nn i.nc,i.pl]] w fun e w'=>e= .returned (.int .i64 r)/\Below w w w'
  :=by
 obtain⟨h1,h2,h3⟩:=H.lens;have h4:=H.pl;have HI:=zhd H;have B:=H.code.elems.2.2;have hk:=H.consts.elems.2.2;have hn:=H.names.elems.2.2;obtain⟨ca,cn,cc,ka,kn,kc,na,nn,nc,pl⟩:=i;dsimp only at h1 h2 h3 h4 B hk hn;have HE:=zh5 B hk hn hw hr;have Q:=zh3 h1 h2 h3;rw[<-h1]at h h0;rw[<-h2,<-h3]at h;rw[<-h4]at hp;clear H h1 h2 h3 h4 B hk hn hw hr;have e0:((cn:Int)==0)=false:=by rw[zna];omega
 have e1:¬(512:Int)<cn:=by omega
 have e2:¬(64:Int)<kn:=by omega
 have e3:¬(32:Int)<nn:=by omega
 have e4:¬pl<0:=by omega
 have e5:¬(16:Int)<pl:=by omega
 obtain⟨g1,g2,g3⟩:=h;dsimp only;go_in;go_wp2_with fail;obtain⟨z,Y⟩:∃z,z=w.alloc (.cells #[.slice ca cn cc,.slice ka kn kc,.slice na nn nc,pl] 28):=⟨_,rfl⟩;have B0:=zba Y;have q:∀o,z.cell? ⟨w,o,none⟩=(#[.slice ca cn cc,.slice ka kn kc,.slice na nn nc,.int .i64 pl]:Array Value)[o]? :=fun o=>by rw[Y,zch (znb _ _)]
 have Aa:z.heap.size=w.heap.size+1:=by rw[Y];simp
 rw[<-Y];have H0:=zh3 B0 q Aa;clear Y B0 q Aa e0 e1 e2 e3 e4 e5;go_loopg [46] (p.consts.length) (fun gk v46 wr=>∃i:Nat,v46= .int .i64 i/\i<=p.consts.length/\gk=p.consts.length - i/\yaK (p.consts.drop i)=yaK p.consts/\Below z z wr)
 case atStart=>exact⟨0,rfl,znq _,rfl,rfl,znv _ _⟩
 case round=>
  obtain⟨i,rfl,hi,E,C,N⟩:=hrel;have b:=N.size;have R:=H0.o.1.trans (N.mono (show w<=z.heap.size by have:=H0.o.2.2;omega));by_cases hin:i<kn
  .obtain⟨x,G⟩:=yae (l:=p.consts) (k:=i) (by have:=Q.o.2.1;omega)
   have K:p.consts.drop i=x::p.consts.drop (i+1):=by
    rw[znr (zge G).1,(zge G).2]
   rw[K,yaK]at C;obtain⟨g,I,v,Ab,hg,J⟩:=HE.o.2.1.resolve_left (fun e=>by rw[e]at G;simp at G);obtain⟨d,hD,m0,m1,m2,m3⟩:=J i x G;subst v;have As:g<wr:=by have:=R.size;omega
   rw[<-R.cell (p:=⟨g,_,none⟩) hg]at m0 m1 m2 m3;have Ao:(i:Int)<kn:=by omega
   have CK:=zhd (ybi x d.kind d.n d.s d.la d.ln d.lc _ _ (hD.keep (S:=fun _=>False) ((zkb R).alloc (.cells #[d.kind,d.n,d.s,.slice d.la d.ln d.lc] 38)) (fun _ _ f=>f)) (HE.o.2.2.2.1 x (zmg G)) _ rfl);generalize checkL x=cl at*;have M:=zh4 C E N R;clear C E N R J hD G K;go_wp2_with fail;refine CK.o.mono ?_;rintro e w5 ⟨rfl,L⟩;have H5:=zhd (show Below wr wr w5 from(zal).trans (L.mono (by simp)));clear L CK;cases hz:(cl !=0)with
   |true=>
    have hr:=HE.o.2.2.2.2;have B:=M.o.1;rw[hz]at B;simp only[znm]at B;rw[<-B,hz]at hr;simp only[znm]at hr;have U:=zhd hr;clear hr B;go_wp2;go_ret;exact⟨by rw[<-U.o];rfl,M.o.2.2.2.trans (H5.o.mono M.o.2.2.2.size)⟩
   |false=>
    have B:=M.o.1;rw[hz]at B;simp only[znl]at B;have HC:=zhd B;clear B;go_wp2_with fail;go_roundg (p.consts.length - (i+1))
    case measure=>have:=M.o.2.1;have:=Q.o.2.1;omega
    case rel=>exact⟨i+1,by simp,by have:=Q.o.2.1;omega,rfl,HC.o,M.o.2.2.1.trans (H5.o.mono b)⟩
  .obtain rfl:i=kn:=by have:=Q.o.2.1;omega
   have O:p.consts.drop i=[]:=zns (by have:=Q.o.2.1;omega);rw[O,yaK]at C;have hr:=HE.o.2.2.2.2;rw[<-C]at hr;simp only[bne_self_eq_false,znl]at hr;have Ad:=zhd hr;have t:w<z.heap.size:=by have:=H0.o.2.2;omega
   have q0:=(N.cell (p:=⟨w,0,none⟩) t).trans (H0.o.2.1 0);have q1:=(N.cell (p:=⟨w,1,none⟩) t).trans (H0.o.2.1 1);have q2:=(N.cell (p:=⟨w,2,none⟩) t).trans (H0.o.2.1 2);have q3:=(N.cell (p:=⟨w,3,none⟩) t).trans (H0.o.2.1 3);simp only[zmc,zma,zmb]at q0 q1 q2 q3;have m:w<wr.heap.size:=by omega
   have a:=zhd R;obtain⟨y,X⟩:∃y,y=wr:=⟨_,rfl⟩;rw[<-X]at q0 q1 q2 q3 m a|-;clear hr C E O N R hin hi X b;go_wp2_with fail;go_loopg [59] (p.names.length) (fun gk v59 wr=>∃i:Nat,v59= .int .i64 i/\i<=p.names.length/\gk=p.names.length - i/\ybn (p.names.drop i)=ybn p.names/\wr=y)
   case atStart=>exact⟨0,rfl,znq _,rfl,rfl,rfl⟩
   case round=>
    obtain⟨j,rfl,hj,E,D,Aj⟩:=hrel;subst Aj;by_cases hjn:j<nn
    .obtain⟨x,G⟩:=yae (l:=p.names) (k:=j) (by have:=Q.o.2.2;omega)
     have K:p.names.drop j=x::p.names.drop (j+1):=by
      rw[znr (zge G).1,(zge G).2]
     rw[K,ybn]at D;obtain⟨g,I,v,J⟩:=HE.o.2.2.1;obtain⟨Ab,hg,P⟩:=J j x G;have v:=v.resolve_right (fun e=>by rw[e]at G;simp at G);subst v;have m0:=P 0 _ rfl;rw[show I+(j*sz ByteArray+0)=I+j from by simp[Cells.sz]]at m0;rw[<-a.o.cell (p:=⟨g,_,none⟩) hg]at m0;have An:(j:Int)<nn:=by omega
     cases hz:decide (64<x.size)with
     |true=>
      have h5:(64:Int)<x.size:=by have:=znx hz;omega
      rw[hz]at D;simp only[znm]at D;have hr:=Ad.o;rw[<-D]at hr;have U:=zhd hr;clear hr D E K G P J hz;go_wp2;go_ret;exact⟨by rw[<-U.o];rfl,a.o⟩
     |false=>
      have h5:¬(64:Int)<x.size:=by have:=zny hz;omega
      rw[hz]at D;simp only[znl]at D;have M:=zh2 D E;clear D E K G P J hz;go_wp2_with fail;go_roundg (p.names.length - (j+1))
      case measure=>have:=M.o.2;have:=Q.o.2.2;omega
      case rel=>exact⟨j+1,by simp,by have:=Q.o.2.2;omega,rfl,M.o.1,rfl⟩
    .obtain rfl:j=nn:=by have:=Q.o.2.2;omega
     have O:p.names.drop j=[]:=zns (by have:=Q.o.2.2;omega);rw[O,ybn]at D;have hr:=Ad.o;rw[<-D]at hr;simp only[bne_self_eq_false,znl]at hr;have Ak:=zhd hr;clear hr D E O hjn hj;obtain⟨y,X⟩:∃y,y=wr:=⟨_,rfl⟩;rw[<-X]at q0 q1 q2 q3 m a|-;clear X;go_wp2_with fail;go_loopg [70] (p.code.length) (fun gk v70 wr=>∃i:Nat,v70= .int .i64 i/\i<=p.code.length/\gk=p.code.length - i/\ybF p (p.code.drop i)=r/\Below y y wr)
     case atStart=>exact⟨0,rfl,znq _,rfl,Ak.o,znv _ _⟩
     case round=>
      obtain⟨k,rfl,hk,E,C,N⟩:=hrel;have b:=N.size;have Ah:w<wr.heap.size:=by omega
      have R:=a.o.trans (N.mono (zmn m));rw[<-N.cell (p:=⟨w,_,none⟩) m]at q0 q1 q2 q3;by_cases hkn:k<cn
      .obtain⟨c,G⟩:=yae (l:=p.code) (k:=k) (by have:=Q.o.1;omega)
       have K:p.code.drop k=c::p.code.drop (k+1):=by
        rw[znr (zge G).1,(zge G).2]
       rw[K,ybF]at C;obtain⟨g,I,v,J⟩:=HE.o.1;obtain⟨Ab,hg,P⟩:=J k c G;have v:=v.resolve_right (fun e=>by rw[e]at G;simp at G);subst v;have m0:=P 0 _ rfl;have m1:=P 1 _ rfl;rw[show I+(k*sz In+0)=I+k*2 from rfl,<-R.cell (p:=⟨g,_,none⟩) hg]at m0;rw[show I+(k*sz In+1)=I+k*2+1 from rfl,<-R.cell (p:=⟨g,_,none⟩) hg]at m1;have Am:(k:Int)<cn:=by omega
       obtain⟨A,ok,u⟩:∃A ok,ofL c.op=(A,ok):=⟨_,_,rfl⟩;have OF:=zhd (show∀W,Calls Tryz.prog 92 #[c.op] W (fun e w'=>e= .returned (.tuple #[.agg #[A.name,A.operand,A.i,A.o,A.blocks,A.ends,A.flow],ok])/\Below W W w')from fun W=>(yge c.op W).mono fun e w' ⟨j1,j2⟩=>⟨by rw[j1,u];rfl,j2⟩);rw[u]at C;obtain⟨Ac,cav⟩:=c;dsimp only at m0 m1 OF C u;have M:=zh3 E N R;have Ae:=zhd C;clear E N R P J K G C u;go_wp2_with fail;refine(OF.o _).mono ?_;rintro e w5 ⟨rfl,L⟩;have Ai:wr<w5.heap.size:=by have:=L.size;simp at this;omega
       have i0:w5.cell? ⟨wr,0,none⟩=some (.int .i64 Ac):=by rw[L.cell (p:=⟨wr,0,none⟩) (by simp),zch (znb _ _)];rfl
       have i1:w5.cell? ⟨wr,1,none⟩=some (.int .i64 cav):=by rw[L.cell (p:=⟨wr,1,none⟩) (by simp),zch (znb _ _)];rfl
       have B5:Below wr wr w5:=((znv _ _).alloc (znc _) (.cells #[Ac,cav] 106)).trans (L.mono (by simp));have Ag:=zhd B5;clear L OF;cases ok with
       |false=>
        have B:=Ae.o;simp only[Bool.not_false,znm]at B;have U:=zhd B;clear B B5;go_wp2;go_ret;exact⟨by rw[<-U.o];rfl,(M.o.2.2.trans (Ag.o.mono M.o.2.2.size)).alloc (by have:=M.o.2.2.size;omega) _⟩
       |true=>
        have B:=Ae.o;simp only[Bool.not_true,znl]at B;obtain⟨w6,T⟩:∃w6,w6=w5.alloc (.cells #[A.name,A.operand,A.i,A.o,A.blocks,A.ends,A.flow] 169):=⟨_,rfl⟩;have B6:Below wr wr w6:=by rw[T];exact B5.alloc (by omega) _
        have Ap:w5<w6.heap.size:=by rw[T];simp
        have u1:w6.cell? ⟨w5,1,none⟩=some (.int .i64 A.operand):=by rw[T,zch (znb _ _)];rfl
        have i1:w6.cell? ⟨wr,1,none⟩=some (.int .i64 cav):=by rw[T];exact(znt (w:=w5) (zne _ _ _ Ai)).trans i1
        rw[<-B6.cell (p:=⟨w,_,none⟩) Ah]at q0 q1 q2 q3;have Ar:w<w6.heap.size:=by omega
        have Aq:wr<w6.heap.size:=by omega
        have V:=zhd (M.o.2.2.trans (B6.mono M.o.2.2.size));have Af:=zhd (M.o.2.1.trans (B6.mono b));go_wp2_with fail;rw[<-T];clear T B5 B6 Ag;cases hneg:decide (cav<0)with
        |true=>
         rw[hneg]at B;simp only[Bool.true_or,znm]at B;have U:=zhd B;have h6:cav<0:=znx hneg;clear B;refine yaA (by kernel_rfl) (by kernel_rfl) ?_
         repeat(go_big_quiet_step (fail))
         refine wpQuiet_nil ?_;intro w7 Z;go_wp2;go_ret;exact⟨by rw[<-U.o];rfl,V.o.trans (Z.mono V.o.size)⟩
        |false=>
         rw[hneg]at B;simp only[Bool.false_or]at B;have h6:¬cav<0:=zny hneg;have MO:=zhd (fun W (hW:Below w6 w6 W)=>ylU _ W ⟨some ⟨g,I,none⟩,cn,cc,ka,i,kc,na,j,nc,pl⟩ p A.operand (HI.o.keep (S:=fun _=>False) (zkb (V.o.trans (hW.mono V.o.size))) (fun _ _ f=>f)));generalize mostL p A.operand=mo at*;cases hge:decide (mo<=cav)with
         |true=>
          rw[hge]at B;simp only[znm]at B;have U:=zhd B;have h7:mo<=cav:=znx hge;clear B hneg hge;refine yaA (by kernel_rfl) (by kernel_rfl) ?_
          repeat(go_big_quiet_step ((go_at_call 94;exact yci (MO.o _ (Subtype.property _)))))
          refine wpQuiet_nil ?_;intro w7 Z;go_wp2;go_ret;exact⟨by rw[<-U.o];rfl,V.o.trans (Z.mono V.o.size)⟩
         |false=>
          rw[hge]at B;simp only[znl]at B;have U:=zhd B;have h7:¬mo<=cav:=zny hge;clear B hneg hge;refine yaA (by kernel_rfl) (by kernel_rfl) ?_
          repeat(go_big_quiet_step ((go_at_call 94;exact yci (MO.o _ (Subtype.property _)))))
          refine wpQuiet_nil ?_;intro w7 Z;go_wp2_with fail;go_roundg (p.code.length - (k+1))
          case measure=>have:=M.o.1;have:=Q.o.1;omega
          case rel=>exact⟨k+1,by simp,by have:=Q.o.1;omega,rfl,U.o,Af.o.trans (Z.mono Af.o.size)⟩
      .obtain rfl:k=cn:=by have:=Q.o.1;omega
       have O:p.code.drop k=[]:=zns (by have:=Q.o.1;omega);rw[O,ybF]at C;have U:=zhd C;have Al:=zhd R;clear C E N R;go_wp2;go_ret;exact⟨by rw[<-U.o];rfl,Al.o⟩
theorem yct
  (F:Nat->Prop)(w:World)(i:IC)(p:Img)(H:IAt F w i p)(r:Int)
  (hw:∀x∈p.consts,x.wf)(hr:imgL p=r):
  Calls Tryz.prog 48 #[.agg #[.slice i.ca i.cn i.cc,.slice i.ka i.kn i.kc,.slice i.na i.nn i.nc,i.pl]] w fun e w'=>e= .returned (.int .i64 r)/\Below w w w'
  :=by
 unfold imgL at hr;by_cases h0:p.code.length=0
 .rw[zno h0]at hr
  exact yhH F w i p H r h0 hr.symm
 .rw[znd h0]at hr
  simp only[znl]at hr;by_cases h1:512<p.code.length\/64<p.consts.length\/32<p.names.length
  .have e:(decide (512<p.code.length)||(decide (64<p.consts.length)||decide (32<p.names.length)))=true:=by simpa using h1
   rw[e]at hr;exact yjw F w i p H r h0 h1 hr.symm
  .have e:(decide (512<p.code.length)||(decide (64<p.consts.length)||decide (32<p.names.length)))=false:=by
    rw[Bool.eq_false_iff];exact fun h=>h1 (by simpa using h)
   rw[e]at hr;simp only[znl]at hr;by_cases h2:p.places<0\/16<p.places
   .have e:(decide (p.places<0)||decide (16<p.places))=true:=by simpa using h2
    rw[e]at hr;exact ygI F w i p H r h0 (by omega) h2 hr.symm
   .have e:(decide (p.places<0)||decide (16<p.places))=false:=by
     rw[Bool.eq_false_iff];exact fun h=>h2 (by simpa using h)
    rw[e]at hr;exact yjv F w i p H r hw h0 (by omega) (by omega) hr
end Go.Proofs.YtpagmlndgblhhaaGreatDoor
namespace Go.Va
open Go.Own Go.RowKit
structure SK (b:Nat)(w w':World):Prop where
 below:Below b w w'
 kept:Lib.OthersKept 5 (some b) w w'
def yqm (n:Nat):UInt8:=if n<10 then UInt8.ofNat (48+n)else UInt8.ofNat (87+n)
def yqD (c:UInt8):List UInt8:=if c.toNat=34\/c.toNat=92 then[92,c]else if c.toNat<32\/126<c.toNat then[92,120,yqm (c.toNat/16),yqm (c.toNat%16)]else[c]
def yop (s:List UInt8):List UInt8:=34::(s.flatMap yqD++[34])
end Go.Va
