/- Parts of the proof: what the functions and the plain laws give that later parts lean on. Conditions: none beyond those that each theorem names. -/
import Derived.Test.YtakljipkaoahnaaGreatDoorA9
set_option maxRecDepth 100000
set_option maxHeartbeats 8000000
namespace Go.Va
open Go.Own Go.RowKit
structure In where
 op:Int
 a:Int
instance:Cells In where
 sz:=2
 enc:=fun c=>[.int .i64 c.op,.int .i64 c.a]
 len:=fun _=>rfl
 one:=by
  intro x v hv
  simp at hv
  rcases hv with rfl|rfl<;>rfl
instance:Cells ByteArray where
 sz:=1
 enc:=fun s=>[.string s]
 len:=fun _=>rfl
 one:=by
  intro x v hv
  simp at hv
  subst hv
  rfl
structure Jp where
 at_:Int
 line:Int
 label:ByteArray
instance:Cells Jp where
 sz:=3
 enc:=fun j=>[.int .i64 j.at_,.int .i64 j.line,.string j.label]
 len:=fun _=>rfl
 one:=by
  intro x v hv
  simp at hv
  rcases hv with rfl|rfl|rfl<;>rfl
def SM:MapTy ByteArray Int:=⟨fun s=>.string s,fun n=>.int .i64 n,fun a b h=>by simpa using h⟩
structure RV where
 vc:Value
 vk:Value
 vn:Value
 vj:Value
 pl:Int
 mb:Option Nat
structure RSt where
 code:List In
 consts:List Val
 names:List ByteArray
 places:Int
 labels:List (ByteArray×Int)
 jumps:List Jp
def RO (v:RV)(b j:Nat):Prop:=j=b∨v.mb=some j∨v.vc.ownBlock=some j∨v.vk.ownBlock=some j∨v.vn.ownBlock=some j∨v.vj.ownBlock=some j
structure Sep (v:RV)(b:Nat):Prop where
 m:∀j,v.mb=some j→j≠b
 c:∀j,v.vc.ownBlock=some j→j≠b∧v.mb≠some j
 k:∀j,v.vk.ownBlock=some j→j≠b∧v.mb≠some j∧v.vc.ownBlock≠some j
 n:∀j,v.vn.ownBlock=some j→j≠b∧v.mb≠some j∧v.vc.ownBlock≠some j∧v.vk.ownBlock≠some j
 j:∀j,v.vj.ownBlock=some j→j≠b∧v.mb≠some j∧v.vc.ownBlock≠some j∧v.vk.ownBlock≠some j∧v.vn.ownBlock≠some j
structure RS (W:World)(tr ti tv ts tj:TypeId)(Z:Nat→Prop)(b:Nat)(v:RV)(st:RSt):Prop where
 h:W.heap[b]? =some (.cells #[v.vc,v.vk,v.vn,.int .i64 v.pl,.map v.mb,v.vj] tr (0,0))
 code:RowAt W ti v.vc st.code
 consts:VRow (fun j=>¬RO v b j∧Z j) W tv v.vk st.consts
 names:RowAt W ts v.vn st.names
 jumps:RowAt W tj v.vj st.jumps
 pl:v.pl=st.places
 labels:∀m,v.mb=some m→MapAt SM W m st.labels
 sep:Sep v b
def RK (b:Nat)(v:RV)(W:World)(v':RV)(W':World):Prop:=Keeps (RO v b) W W'∧(∀j,RO v' b j→RO v b j∨W.heap.size≤j)∧v'.mb=v.mb
theorem RK.refl (b:Nat)(v:RV)(W:World):RK b v W v W:=⟨Keeps.refl _ _,fun _ h=>.inl h,rfl⟩
theorem RK.trans {b:Nat}{v v' v'':RV}{W W' W'':World}(h:RK b v W v' W')(k:RK b v' W' v'' W''):RK b v W v'' W'':=by
 refine⟨h.1.trans k.1 (fun j hj e=>(h.2.1 j e).resolve_right (by omega)),fun j hj=> ?_,k.2.2.trans h.2.2⟩
 rcases k.2.1 j hj with h1|h1
 ·exact h.2.1 j h1
 ·exact .inr (Nat.le_trans h.1.size h1)
theorem RK.ext {b:Nat}{v:RV}{W W':World}(K:Below W.heap.size W W'):RK b v W v W':=⟨(zkb (S:=fun _=>False) K).mono (fun _ _ f=>f.elim),fun _ h=>.inl h,rfl⟩
section
variable{W W':World} {tr ti tv ts tj:TypeId} {Z Z':Nat→Prop} {b:Nat} {v:RV} {st:RSt}
theorem RS.lt (R:RS W tr ti tv ts tj Z b v st){j:Nat}(h:RO v b j):j<W.heap.size:=by
 rcases h with rfl|h|h|h|h|h
 ·exact zlt R.h
 ·exact(R.labels j h).lt
 ·exact R.code.lt h
 ·obtain⟨cs,h1,_⟩:=R.consts
  exact h1.lt h
 ·exact R.names.lt h
 ·exact R.jumps.lt h
theorem RS.far {S:Nat→Prop}(R:RS W tr ti tv ts tj Z b v st)(K:Keeps S W W')(h1:∀j,S j→¬RO v b j)(h2:∀j,S j→¬Z j):RS W' tr ti tv ts tj Z b v st:=
 ⟨(K.block b (zlt R.h) (fun s=>h1 b s (.inl rfl))).trans R.h,R.code.keep K (fun g hg s=>h1 g s (.inr (.inr (.inl hg)))),R.consts.keep K (fun g h s=>h2 g s h.2) (fun g hg s=>h1 g s (.inr (.inr (.inr (.inl hg))))),R.names.keep K (fun g hg s=>h1 g s (.inr (.inr (.inr (.inr (.inl hg)))))),R.jumps.keep K (fun g hg s=>h1 g s (.inr (.inr (.inr (.inr (.inr hg)))))),R.pl,fun m hm=>(R.labels m hm).keep K (fun s=>h1 m s (.inr (.inl hm))),R.sep⟩
theorem RS.monoZ (R:RS W tr ti tv ts tj Z b v st)(h:∀j,Z j→j<W.heap.size→Z' j):RS W tr ti tv ts tj Z' b v st:=
 ⟨R.h,R.code,R.consts.mono (fun j hj hl=>⟨hj.1,h j hj.2 hl⟩),R.names,R.jumps,R.pl,R.labels,R.sep⟩
theorem RS.ext (R:RS W tr ti tv ts tj Z b v st)(K:Below W.heap.size W W'):RS W' tr ti tv ts tj Z b v st:=
 have K0:Keeps (fun _=>False) W W':=zkb K
 ⟨(K.block b (zlt R.h)).trans R.h,R.code.keep K0 (fun _ _ f=>f),R.consts.keep K0 (fun _ _ f=>f) (fun _ _ f=>f),R.names.keep K0 (fun _ _ f=>f),R.jumps.keep K0 (fun _ _ f=>f),R.pl,fun m hm=>(R.labels m hm).keep K0 (fun f=>f),R.sep⟩
theorem RS.setCode (R:RS W tr ti tv ts tj Z b v st){w1:World}{v1:Value}{l1:List In}(hr:RowAt w1 ti v1 l1)(K:Keeps (fun j=>v.vc.ownBlock=some j) W w1)(hf:∀g,v1.ownBlock=some g→v.vc.ownBlock=some g∨W.heap.size≤g):
  RS (w1.setCell ⟨b,0,none⟩ v1) tr ti tv ts tj Z b {v with vc:=v1} {st with code:=l1}∧RK b v W {v with vc:=v1} (w1.setCell ⟨b,0,none⟩ v1):=by
 have hbn:v.vc.ownBlock≠some b:=fun e=>(R.sep.c b e).1 rfl
 have hb:w1.heap[b]? =some (.cells #[v.vc,v.vk,v.vn,.int .i64 v.pl,.map v.mb,v.vj] tr (0,0)):=(K.block b (zlt R.h) hbn).trans R.h
 have KB:Keeps (fun j=>j=b) w1 (w1.setCell ⟨b,0,none⟩ v1):=Keeps.setCell (S:=fun j=>j=b) (p:=⟨b,0,none⟩) (Keeps.refl _ _) (.inl rfl) _
 have K2:Keeps (fun j=>j=b∨v.vc.ownBlock=some j) W (w1.setCell ⟨b,0,none⟩ v1):=(K.mono (fun _ _ e=>.inr e)).trans KB (fun _ _ e=>.inl e)
 have hn:∀j,v1.ownBlock=some j→j≠b∧v.mb≠some j∧v.vk.ownBlock≠some j∧v.vn.ownBlock≠some j∧v.vj.ownBlock≠some j:=fun j hj=>by
  rcases hf j hj with h|h
  ·exact⟨(R.sep.c j h).1,(R.sep.c j h).2,fun e=>(R.sep.k j e).2.2 h,fun e=>(R.sep.n j e).2.2.1 h,fun e=>(R.sep.j j e).2.2.1 h⟩
  ·exact⟨(fun e=>by have:=R.lt (j:=j) (.inl e);omega),(fun e=>by have:=R.lt (j:=j) (.inr (.inl e));omega),(fun e=>by have:=R.lt (j:=j) (.inr (.inr (.inr (.inl e))));omega),(fun e=>by have:=R.lt (j:=j) (.inr (.inr (.inr (.inr (.inl e)))));omega),(fun e=>by have:=R.lt (j:=j) (.inr (.inr (.inr (.inr (.inr e)))));omega)⟩
 have hlt:∀j,RO v b j→j<W.heap.size:=fun j=>R.lt
 have hk2:VRow (fun j=>¬RO {v with vc:=v1} b j∧Z j) (w1.setCell ⟨b,0,none⟩ v1) tv v.vk st.consts:=by
  refine((R.consts.mono (G:=fun j=>(¬RO v b j∧Z j)∧¬v1.ownBlock=some j) (fun j h l=>⟨h,fun e=>(hf j e).elim (fun h1=>h.1 (.inr (.inr (.inl h1)))) (fun h1=>by omega)⟩)).keep K2 (fun g h e=>h.1.1 (e.elim .inl (fun e=>.inr (.inr (.inl e))))) (fun g hg e=>e.elim (R.sep.k g hg).1 (fun e=>(R.sep.k g hg).2.2 e))).mono (fun j h _=>⟨fun e=> ?_,h.1.2⟩)
  rcases e with e|e|e|e|e|e
  ·exact h.1.1 (.inl e)
  ·exact h.1.1 (.inr (.inl e))
  ·exact h.2 e
  ·exact h.1.1 (.inr (.inr (.inr (.inl e))))
  ·exact h.1.1 (.inr (.inr (.inr (.inr (.inl e)))))
  ·exact h.1.1 (.inr (.inr (.inr (.inr (.inr e)))))
 refine⟨⟨by simp[World.setCell,Array.getElem?_modify,hb],hr.keep KB (fun g hg=>(hn g hg).1),hk2,R.names.keep K2 (fun g hg e=>e.elim (R.sep.n g hg).1 (fun e=>(R.sep.n g hg).2.2.1 e)),R.jumps.keep K2 (fun g hg e=>e.elim (R.sep.j g hg).1 (fun e=>(R.sep.j g hg).2.2.1 e)),R.pl,fun m hm=>(R.labels m hm).keep K2 (fun e=>e.elim (R.sep.m m hm) (fun e=>(R.sep.c m e).2 hm)),⟨R.sep.m,fun j hj=>⟨(hn j hj).1,(hn j hj).2.1⟩,fun j hj=>⟨(R.sep.k j hj).1,(R.sep.k j hj).2.1,fun e=>(hn j e).2.2.1 hj⟩,fun j hj=>⟨(R.sep.n j hj).1,(R.sep.n j hj).2.1,fun e=>(hn j e).2.2.2.1 hj,(R.sep.n j hj).2.2.2⟩,fun j hj=>⟨(R.sep.j j hj).1,(R.sep.j j hj).2.1,fun e=>(hn j e).2.2.2.2 hj,(R.sep.j j hj).2.2.2.1,(R.sep.j j hj).2.2.2.2⟩⟩⟩,K2.mono (fun j _ e=>e.elim .inl (fun e=>.inr (.inr (.inl e)))),fun j hj=> ?_,rfl⟩
 rcases hj with e|e|e|e|e|e
 ·exact .inl (.inl e)
 ·exact .inl (.inr (.inl e))
 ·exact(hf j e).elim (fun h1=>.inl (.inr (.inr (.inl h1)))) .inr
 ·exact .inl (.inr (.inr (.inr (.inl e))))
 ·exact .inl (.inr (.inr (.inr (.inr (.inl e)))))
 ·exact .inl (.inr (.inr (.inr (.inr (.inr e)))))
theorem RS.setConsts (R:RS W tr ti tv ts tj Z b v st){w1:World}{v1:Value}{l1:List Val}(hr:VRow (fun j=>(¬RO v b j∧Z j)∧¬v1.ownBlock=some j) w1 tv v1 l1)(K:Keeps (fun j=>v.vk.ownBlock=some j) W w1)(hf:∀g,v1.ownBlock=some g→v.vk.ownBlock=some g∨W.heap.size≤g):
  RS (w1.setCell ⟨b,1,none⟩ v1) tr ti tv ts tj Z b {v with vk:=v1} {st with consts:=l1}∧RK b v W {v with vk:=v1} (w1.setCell ⟨b,1,none⟩ v1):=by
 have hbn:v.vk.ownBlock≠some b:=fun e=>(R.sep.k b e).1 rfl
 have hb:w1.heap[b]? =some (.cells #[v.vc,v.vk,v.vn,.int .i64 v.pl,.map v.mb,v.vj] tr (0,0)):=(K.block b (zlt R.h) hbn).trans R.h
 have KB:Keeps (fun j=>j=b) w1 (w1.setCell ⟨b,1,none⟩ v1):=Keeps.setCell (S:=fun j=>j=b) (p:=⟨b,1,none⟩) (Keeps.refl _ _) (.inl rfl) _
 have K2:Keeps (fun j=>j=b∨v.vk.ownBlock=some j) W (w1.setCell ⟨b,1,none⟩ v1):=(K.mono (fun _ _ e=>.inr e)).trans KB (fun _ _ e=>.inl e)
 have hn:∀j,v1.ownBlock=some j→j≠b∧v.mb≠some j∧v.vc.ownBlock≠some j∧v.vn.ownBlock≠some j∧v.vj.ownBlock≠some j:=fun j hj=>by
  rcases hf j hj with h|h
  ·exact⟨(R.sep.k j h).1,(R.sep.k j h).2.1,(R.sep.k j h).2.2,fun e=>(R.sep.n j e).2.2.2 h,fun e=>(R.sep.j j e).2.2.2.1 h⟩
  ·exact⟨(fun e=>by have:=R.lt (j:=j) (.inl e);omega),(fun e=>by have:=R.lt (j:=j) (.inr (.inl e));omega),(fun e=>by have:=R.lt (j:=j) (.inr (.inr (.inl e)));omega),(fun e=>by have:=R.lt (j:=j) (.inr (.inr (.inr (.inr (.inl e)))));omega),(fun e=>by have:=R.lt (j:=j) (.inr (.inr (.inr (.inr (.inr e)))));omega)⟩
 have hlt:∀j,RO v b j→j<W.heap.size:=fun j=>R.lt
 have hr2:VRow (fun j=>¬RO {v with vk:=v1} b j∧Z j) (w1.setCell ⟨b,1,none⟩ v1) tv v1 l1:=by
  refine(hr.keep KB (fun g h e=>h.1.1 (.inl e)) (fun g hg=>(hn g hg).1)).mono (fun j h _=>⟨fun e=> ?_,h.1.2⟩)
  rcases e with e|e|e|e|e|e
  ·exact h.1.1 (.inl e)
  ·exact h.1.1 (.inr (.inl e))
  ·exact h.1.1 (.inr (.inr (.inl e)))
  ·exact h.2 e
  ·exact h.1.1 (.inr (.inr (.inr (.inr (.inl e)))))
  ·exact h.1.1 (.inr (.inr (.inr (.inr (.inr e)))))
 refine⟨⟨by simp[World.setCell,Array.getElem?_modify,hb],R.code.keep K2 (fun g hg e=>e.elim (R.sep.c g hg).1 (fun e=>(R.sep.k g e).2.2 hg)),hr2,R.names.keep K2 (fun g hg e=>e.elim (R.sep.n g hg).1 (fun e=>(R.sep.n g hg).2.2.2 e)),R.jumps.keep K2 (fun g hg e=>e.elim (R.sep.j g hg).1 (fun e=>(R.sep.j g hg).2.2.2.1 e)),R.pl,fun m hm=>(R.labels m hm).keep K2 (fun e=>e.elim (R.sep.m m hm) (fun e=>(R.sep.k m e).2.1 hm)),⟨R.sep.m,R.sep.c,fun j hj=>⟨(hn j hj).1,(hn j hj).2.1,(hn j hj).2.2.1⟩,fun j hj=>⟨(R.sep.n j hj).1,(R.sep.n j hj).2.1,(R.sep.n j hj).2.2.1,fun e=>(hn j e).2.2.2.1 hj⟩,fun j hj=>⟨(R.sep.j j hj).1,(R.sep.j j hj).2.1,(R.sep.j j hj).2.2.1,fun e=>(hn j e).2.2.2.2 hj,(R.sep.j j hj).2.2.2.2⟩⟩⟩,K2.mono (fun j _ e=>e.elim .inl (fun e=>.inr (.inr (.inr (.inl e))))),fun j hj=> ?_,rfl⟩
 rcases hj with e|e|e|e|e|e
 ·exact .inl (.inl e)
 ·exact .inl (.inr (.inl e))
 ·exact .inl (.inr (.inr (.inl e)))
 ·exact(hf j e).elim (fun h1=>.inl (.inr (.inr (.inr (.inl h1))))) .inr
 ·exact .inl (.inr (.inr (.inr (.inr (.inl e)))))
 ·exact .inl (.inr (.inr (.inr (.inr (.inr e)))))
theorem RS.setNames (R:RS W tr ti tv ts tj Z b v st){w1:World}{v1:Value}{l1:List ByteArray}(hr:RowAt w1 ts v1 l1)(K:Keeps (fun j=>v.vn.ownBlock=some j) W w1)(hf:∀g,v1.ownBlock=some g→v.vn.ownBlock=some g∨W.heap.size≤g):
  RS (w1.setCell ⟨b,2,none⟩ v1) tr ti tv ts tj Z b {v with vn:=v1} {st with names:=l1}∧RK b v W {v with vn:=v1} (w1.setCell ⟨b,2,none⟩ v1):=by
 have hbn:v.vn.ownBlock≠some b:=fun e=>(R.sep.n b e).1 rfl
 have hb:w1.heap[b]? =some (.cells #[v.vc,v.vk,v.vn,.int .i64 v.pl,.map v.mb,v.vj] tr (0,0)):=(K.block b (zlt R.h) hbn).trans R.h
 have KB:Keeps (fun j=>j=b) w1 (w1.setCell ⟨b,2,none⟩ v1):=Keeps.setCell (S:=fun j=>j=b) (p:=⟨b,2,none⟩) (Keeps.refl _ _) (.inl rfl) _
 have K2:Keeps (fun j=>j=b∨v.vn.ownBlock=some j) W (w1.setCell ⟨b,2,none⟩ v1):=(K.mono (fun _ _ e=>.inr e)).trans KB (fun _ _ e=>.inl e)
 have hn:∀j,v1.ownBlock=some j→j≠b∧v.mb≠some j∧v.vc.ownBlock≠some j∧v.vk.ownBlock≠some j∧v.vj.ownBlock≠some j:=fun j hj=>by
  rcases hf j hj with h|h
  ·exact⟨(R.sep.n j h).1,(R.sep.n j h).2.1,(R.sep.n j h).2.2.1,(R.sep.n j h).2.2.2,fun e=>(R.sep.j j e).2.2.2.2 h⟩
  ·exact⟨(fun e=>by have:=R.lt (j:=j) (.inl e);omega),(fun e=>by have:=R.lt (j:=j) (.inr (.inl e));omega),(fun e=>by have:=R.lt (j:=j) (.inr (.inr (.inl e)));omega),(fun e=>by have:=R.lt (j:=j) (.inr (.inr (.inr (.inl e))));omega),(fun e=>by have:=R.lt (j:=j) (.inr (.inr (.inr (.inr (.inr e)))));omega)⟩
 have hlt:∀j,RO v b j→j<W.heap.size:=fun j=>R.lt
 have hk2:VRow (fun j=>¬RO {v with vn:=v1} b j∧Z j) (w1.setCell ⟨b,2,none⟩ v1) tv v.vk st.consts:=by
  refine((R.consts.mono (G:=fun j=>(¬RO v b j∧Z j)∧¬v1.ownBlock=some j) (fun j h l=>⟨h,fun e=>(hf j e).elim (fun h1=>h.1 (.inr (.inr (.inr (.inr (.inl h1)))))) (fun h1=>by omega)⟩)).keep K2 (fun g h e=>h.1.1 (e.elim .inl (fun e=>.inr (.inr (.inr (.inr (.inl e))))))) (fun g hg e=>e.elim (R.sep.k g hg).1 (fun e=>(R.sep.n g e).2.2.2 hg))).mono (fun j h _=>⟨fun e=> ?_,h.1.2⟩)
  rcases e with e|e|e|e|e|e
  ·exact h.1.1 (.inl e)
  ·exact h.1.1 (.inr (.inl e))
  ·exact h.1.1 (.inr (.inr (.inl e)))
  ·exact h.1.1 (.inr (.inr (.inr (.inl e))))
  ·exact h.2 e
  ·exact h.1.1 (.inr (.inr (.inr (.inr (.inr e)))))
 refine⟨⟨by simp[World.setCell,Array.getElem?_modify,hb],R.code.keep K2 (fun g hg e=>e.elim (R.sep.c g hg).1 (fun e=>(R.sep.n g e).2.2.1 hg)),hk2,hr.keep KB (fun g hg=>(hn g hg).1),R.jumps.keep K2 (fun g hg e=>e.elim (R.sep.j g hg).1 (fun e=>(R.sep.j g hg).2.2.2.2 e)),R.pl,fun m hm=>(R.labels m hm).keep K2 (fun e=>e.elim (R.sep.m m hm) (fun e=>(R.sep.n m e).2.1 hm)),⟨R.sep.m,R.sep.c,R.sep.k,fun j hj=>⟨(hn j hj).1,(hn j hj).2.1,(hn j hj).2.2.1,(hn j hj).2.2.2.1⟩,fun j hj=>⟨(R.sep.j j hj).1,(R.sep.j j hj).2.1,(R.sep.j j hj).2.2.1,(R.sep.j j hj).2.2.2.1,fun e=>(hn j e).2.2.2.2 hj⟩⟩⟩,K2.mono (fun j _ e=>e.elim .inl (fun e=>.inr (.inr (.inr (.inr (.inl e)))))),fun j hj=> ?_,rfl⟩
 rcases hj with e|e|e|e|e|e
 ·exact .inl (.inl e)
 ·exact .inl (.inr (.inl e))
 ·exact .inl (.inr (.inr (.inl e)))
 ·exact .inl (.inr (.inr (.inr (.inl e))))
 ·exact(hf j e).elim (fun h1=>.inl (.inr (.inr (.inr (.inr (.inl h1)))))) .inr
 ·exact .inl (.inr (.inr (.inr (.inr (.inr e)))))
theorem RS.setJumps (R:RS W tr ti tv ts tj Z b v st){w1:World}{v1:Value}{l1:List Jp}(hr:RowAt w1 tj v1 l1)(K:Keeps (fun j=>v.vj.ownBlock=some j) W w1)(hf:∀g,v1.ownBlock=some g→v.vj.ownBlock=some g∨W.heap.size≤g):
  RS (w1.setCell ⟨b,5,none⟩ v1) tr ti tv ts tj Z b {v with vj:=v1} {st with jumps:=l1}∧RK b v W {v with vj:=v1} (w1.setCell ⟨b,5,none⟩ v1):=by
 have hbn:v.vj.ownBlock≠some b:=fun e=>(R.sep.j b e).1 rfl
 have hb:w1.heap[b]? =some (.cells #[v.vc,v.vk,v.vn,.int .i64 v.pl,.map v.mb,v.vj] tr (0,0)):=(K.block b (zlt R.h) hbn).trans R.h
 have KB:Keeps (fun j=>j=b) w1 (w1.setCell ⟨b,5,none⟩ v1):=Keeps.setCell (S:=fun j=>j=b) (p:=⟨b,5,none⟩) (Keeps.refl _ _) (.inl rfl) _
 have K2:Keeps (fun j=>j=b∨v.vj.ownBlock=some j) W (w1.setCell ⟨b,5,none⟩ v1):=(K.mono (fun _ _ e=>.inr e)).trans KB (fun _ _ e=>.inl e)
 have hn:∀j,v1.ownBlock=some j→j≠b∧v.mb≠some j∧v.vc.ownBlock≠some j∧v.vk.ownBlock≠some j∧v.vn.ownBlock≠some j:=fun j hj=>by
  rcases hf j hj with h|h
  ·exact⟨(R.sep.j j h).1,(R.sep.j j h).2.1,(R.sep.j j h).2.2.1,(R.sep.j j h).2.2.2.1,(R.sep.j j h).2.2.2.2⟩
  ·exact⟨(fun e=>by have:=R.lt (j:=j) (.inl e);omega),(fun e=>by have:=R.lt (j:=j) (.inr (.inl e));omega),(fun e=>by have:=R.lt (j:=j) (.inr (.inr (.inl e)));omega),(fun e=>by have:=R.lt (j:=j) (.inr (.inr (.inr (.inl e))));omega),(fun e=>by have:=R.lt (j:=j) (.inr (.inr (.inr (.inr (.inl e)))));omega)⟩
 have hlt:∀j,RO v b j→j<W.heap.size:=fun j=>R.lt
 have hk2:VRow (fun j=>¬RO {v with vj:=v1} b j∧Z j) (w1.setCell ⟨b,5,none⟩ v1) tv v.vk st.consts:=by
  refine((R.consts.mono (G:=fun j=>(¬RO v b j∧Z j)∧¬v1.ownBlock=some j) (fun j h l=>⟨h,fun e=>(hf j e).elim (fun h1=>h.1 (.inr (.inr (.inr (.inr (.inr h1)))))) (fun h1=>by omega)⟩)).keep K2 (fun g h e=>h.1.1 (e.elim .inl (fun e=>.inr (.inr (.inr (.inr (.inr e))))))) (fun g hg e=>e.elim (R.sep.k g hg).1 (fun e=>(R.sep.j g e).2.2.2.1 hg))).mono (fun j h _=>⟨fun e=> ?_,h.1.2⟩)
  rcases e with e|e|e|e|e|e
  ·exact h.1.1 (.inl e)
  ·exact h.1.1 (.inr (.inl e))
  ·exact h.1.1 (.inr (.inr (.inl e)))
  ·exact h.1.1 (.inr (.inr (.inr (.inl e))))
  ·exact h.1.1 (.inr (.inr (.inr (.inr (.inl e)))))
  ·exact h.2 e
 refine⟨⟨by simp[World.setCell,Array.getElem?_modify,hb],R.code.keep K2 (fun g hg e=>e.elim (R.sep.c g hg).1 (fun e=>(R.sep.j g e).2.2.1 hg)),hk2,R.names.keep K2 (fun g hg e=>e.elim (R.sep.n g hg).1 (fun e=>(R.sep.j g e).2.2.2.2 hg)),hr.keep KB (fun g hg=>(hn g hg).1),R.pl,fun m hm=>(R.labels m hm).keep K2 (fun e=>e.elim (R.sep.m m hm) (fun e=>(R.sep.j m e).2.1 hm)),⟨R.sep.m,R.sep.c,R.sep.k,R.sep.n,fun j hj=>⟨(hn j hj).1,(hn j hj).2.1,(hn j hj).2.2.1,(hn j hj).2.2.2.1,(hn j hj).2.2.2.2⟩⟩⟩,K2.mono (fun j _ e=>e.elim .inl (fun e=>.inr (.inr (.inr (.inr (.inr e)))))),fun j hj=> ?_,rfl⟩
 rcases hj with e|e|e|e|e|e
 ·exact .inl (.inl e)
 ·exact .inl (.inr (.inl e))
 ·exact .inl (.inr (.inr (.inl e)))
 ·exact .inl (.inr (.inr (.inr (.inl e))))
 ·exact .inl (.inr (.inr (.inr (.inr (.inl e)))))
 ·exact(hf j e).elim (fun h1=>.inl (.inr (.inr (.inr (.inr (.inr h1)))))) .inr
end
def seekN (s:ByteArray):List ByteArray→Nat→Option Nat
 |[],_=>none
 |x::r,i=>bif s.data.toList==x.data.toList then some i else seekN s r (i+1)
def addN (s:ByteArray)(l:List ByteArray):Nat×List ByteArray:=
 match seekN s l 0 with
 |some i=>(i,l)
 |none=>(l.length,l++[s])
def seekV (x:Val):List Val→Nat→Option Nat
 |[],_=>none
 |y::r,i=>bif cmpV x y==0 then some i else seekV x r (i+1)
def addV (x:Val)(l:List Val):Nat×List Val:=
 match seekV x l 0 with
 |some i=>(i,l)
 |none=>(l.length,l++[x])
end Go.Va
namespace Go.Proofs.YtakljipkaoahnaaGreatDoor
open Go.RowKit Go.Own Go.Own.MapTy Go.Va Go.Sort
open Go.Own.Cells (sz enc)
abbrev RX (Z:Nat→Prop)(W:World)(b:Nat)(v:RV)(st:RSt):Prop:=RS W 85 43 39 9 91 Z b v st
def RPost (Z:Nat→Prop)(W:World)(b:Nat)(v:RV)(r:Value)(st:RSt)(e:Ending)(w':World):Prop:=∃v',e= .returned r∧Hid (RX Z w' b v' st∧RK b v W v' w')
theorem elemS:ElemOf ByteArray Tryz.prog 25 9 16:=elem_mk Tryz.underlying25 (z:=.string .empty) (n:=1) (by kernel_rfl) rfl rfl
theorem row_str {w:World}{e:TypeId}{xs:List ByteArray}{g off n cap:Nat}(h:RowAt w e (.slice (some ⟨g,off,none⟩) n cap) xs){i:Nat}{x:ByteArray}(hx:xs[i]? =some x):w.cell? ⟨g,off+i,none⟩=some (.string x):=by
 have:=h.cell hx (j:=0) (by decide)
 simpa[Cells.sz,Cells.enc]using this
theorem name_any {Z:Nat→Prop}(b:Nat)(v:RV)(st:RSt)(s:ByteArray)(W:World)(R:RX Z W b v st)(hl:st.names.length≤4294967296)(i0:Nat)(l':List ByteArray)(hr:addN s st.names=(i0,l')):
  Calls Tryz.prog 80 #[.pointer (some ⟨b,0,none⟩),.string s] W (RPost Z W b v (.int .i64 i0) {st with names:=l'}):=by
 obtain⟨vc,vk,vn,vj,pl,mb⟩:=v
 obtain⟨a,cap,rfl⟩:∃a cap,vn= .slice a st.names.length cap:=R.names.slice
 have b0:=zlt R.h
 have c2:=zca R.h 2 rfl
 have f0:∀o,W.frozen? ⟨b,o,none⟩=false:=fun o=>zfr R.h o
 unfold addN at hr
 have HR:=zh2 R hr
 clear R hr
 go_enter Tryz.func80,Tryz.ntmps80
 go_wp2_with fail
 go_loopg [12] (st.names.length) (fun gk v12 wr=>wr=W∧∃i:Nat,v12= .int .i64 i∧i≤st.names.length∧gk=st.names.length - i∧seekN s (st.names.drop i) i=seekN s st.names 0)
 case atStart=>exact⟨rfl,0,rfl,Nat.zero_le _,rfl,rfl⟩
 case round=>
  obtain⟨rfl,i,rfl,hi,hgk,hs⟩:=hrel
  by_cases hin:i<st.names.length
  ·obtain⟨x,hx⟩:=elem_at hin
   have hdr:st.names.drop i=x::st.names.drop (i+1):=by
    rw[List.drop_eq_getElem_cons (zge hx).1,(zge hx).2]
   rw[hdr,seekN]at hs
   obtain⟨g,off,ha,hg⟩:=HR.out.1.names.addr hx
   subst ha
   have q0:=row_str HR.out.1.names hx
   have hin':(i:Int)<st.names.length:=by omega
   cases hq:(s.data.toList==x.data.toList)
   all_goals
    have e5:(s.toList==x.toList)=(s.data.toList==x.data.toList):=by rw[ByteArray.toList_eq,ByteArray.toList_eq]
    rw[hq]at hs e5
    simp only[cond_true,cond_false]at hs
    have HX:=zh2 hs hgk
    clear hs hgk hq hdr hx
    go_wp2_with fail
   ·go_roundg (st.names.length - (i+1))
    case measure=>have:=HX.out.2;omega
    case rel=>exact⟨rfl,i+1,by simp,by omega,rfl,HX.out.1⟩
   ·have hr:=HR.out.2
    rw[←HX.out.1]at hr
    cases hr
    go_ret
    exact⟨_,rfl,zhd ⟨HR.out.1,RK.refl _ _ _⟩⟩
  ·obtain rfl:i=st.names.length:=by omega
   rw[List.drop_eq_nil_of_le (Nat.le_refl _),seekN]at hs
   have hr:=HR.out.2
   rw[←hs]at hr
   cases hr
   have HX:=zhd HR.out.1
   clear HR hs hgk
   go_wp2_with (at_builtin;go_must (refine wp_appW (α:=ByteArray) elemS rfl (.tmp 26) (.tmp 28) rfl (HX.out.names.alloc _) s rfl rfl (heap_alloc_new _ _) (by omega) (by unfold maxLen;omega) ?_);intro a1 q1 w1 hr1 hk1 hf1;have hb1:=(hk1.block b (by simp;omega) (fun e=>(HX.out.sep.n b e).1 rfl)).trans ((Below.heap_alloc _ _ _ b0).trans HX.out.h);have c2:w1.cell? ⟨b,2,none⟩=some (.slice a st.names.length cap):=by{rw[zch hb1];rfl};have f0:∀o,w1.frozen? ⟨b,o,none⟩=false:=fun o=>zfr hb1 o;have b1:b<w1.heap.size:=zlt hb1;have HB:=zhd hb1;clear hb1)
   have RA:=HX.out.ext ((Below.refl _ _).alloc (Nat.le_refl _) (.cells #[.string s] 9))
   have S:=RA.setNames hr1 hk1 hf1
   go_ret
   exact⟨_,rfl,zhd ⟨S.1,(RK.ext (zal)).trans S.2⟩⟩
theorem app_facts {wr w1:World}{X:Obj}{ks:List VC}{z:VC}{a a1:Option Addr}{cap q1 n b B:Nat}{T:TypeId}(hn:ks.length=n)(hr:RowAt w1 T (.slice a1 (n+1) q1) (ks++[z]))(hk:Keeps (fun j=>(Value.slice a n cap).ownBlock=some j) (wr.drew.alloc X) w1)(hf:∀g,(Value.slice a1 (n+1) q1).ownBlock=some g→(Value.slice a n cap).ownBlock=some g∨(wr.drew.alloc X).heap.size≤g)
  (hb:b<wr.heap.size)(hB:B<wr.heap.size)(nb:∀g,(Value.slice a n cap).ownBlock=some g→g≠b∧g≠B):
  ∃g1 off1,a1=some ⟨g1,off1,none⟩∧(w1.cell? ⟨g1,off1+n*4,none⟩=some (.int .i64 z.kind)∧w1.cell? ⟨g1,off1+n*4+1,none⟩=some (.int .i64 z.n)∧w1.cell? ⟨g1,off1+n*4+2,none⟩=some (.string z.s)∧w1.cell? ⟨g1,off1+n*4+3,none⟩=some (.slice z.la z.ln z.lc))∧
   (∀o,w1.frozen? ⟨g1,o,none⟩=false)∧(∀o,w1.cell? ⟨b,o,none⟩=wr.cell? ⟨b,o,none⟩)∧(∀o,w1.frozen? ⟨b,o,none⟩=wr.frozen? ⟨b,o,none⟩)∧(∀o,w1.cell? ⟨B,o,none⟩=wr.cell? ⟨B,o,none⟩)∧(¬g1=b∧¬b=g1∧¬g1=B∧¬B=g1)∧g1<w1.heap.size∧b<w1.heap.size∧B<w1.heap.size:=by
 have hx:(ks++[z])[n]? =some z:=by rw[List.getElem?_append_right (by omega),hn];simp
 obtain⟨g1,off1,rfl,hg1⟩:=hr.addr hx
 have sz:=hk.size
 simp at sz
 have ne:∀g,g<wr.heap.size→(∀g',(Value.slice a n cap).ownBlock=some g'→g'≠g)→g1≠g:=fun g hg h1 e=>by
  rcases hf g1 rfl with h|h
  ·exact h1 _ h e
  ·simp at h;omega
 have n1:=ne b hb (fun g' h=>(nb g' h).1)
 have n2:=ne B hB (fun g' h=>(nb g' h).2)
 have c:=fun(j:Nat) (hj:j<4)=>hr.cell hx (j:=j) hj
 have h0:=c 0 (by decide)
 have h1:=c 1 (by decide)
 have h2:=c 2 (by decide)
 have h3:=c 3 (by decide)
 have old:∀g o,g<wr.heap.size→(∀g',(Value.slice a n cap).ownBlock=some g'→g'≠g)→w1.cell? ⟨g,o,none⟩=wr.cell? ⟨g,o,none⟩:=fun g o hg h=>by
  rw[hk.cell (p:=⟨g,o,none⟩) (by simp;omega) (fun e=>h g e rfl)]
  exact World.cell?_of_block (w:=wr) (Below.heap_alloc _ _ _ hg)
 have oldf:∀g o,g<wr.heap.size→(∀g',(Value.slice a n cap).ownBlock=some g'→g'≠g)→w1.frozen? ⟨g,o,none⟩=wr.frozen? ⟨g,o,none⟩:=fun g o hg h=>by
  rw[hk.frozen (p:=⟨g,o,none⟩) (by simp;omega) (fun e=>h g e rfl)]
  exact World.frozen?_of_block (w:=wr) (Below.heap_alloc _ _ _ hg)
 refine⟨g1,off1,rfl,⟨h0,by rw[Nat.add_assoc];exact h1,by rw[Nat.add_assoc];exact h2,by rw[Nat.add_assoc];exact h3⟩,fun o=>hr.frozen o,fun o=>old b o hb (fun g' h=>(nb g' h).1),fun o=>oldf b o hb (fun g' h=>(nb g' h).1),fun o=>old B o hB (fun g' h=>(nb g' h).2),⟨n1,fun e=>n1 e.symm,n2,fun e=>n2 e.symm⟩,hg1,by omega,by omega⟩
theorem setCell_comm {W:World}{g b o p:Nat}{x y:Value}(h:¬g=b):(W.setCell ⟨b,o,none⟩ x).setCell ⟨g,p,none⟩ y=(W.setCell ⟨g,p,none⟩ y).setCell ⟨b,o,none⟩ x:=by
 simp only[World.setCell]
 congr 1
 refine Array.ext_getElem? fun i=> ?_
 simp only[Array.getElem?_modify]
 by_cases h1:b=i
 ·subst h1
  simp[h]
 ·by_cases h2:g=i
  ·subst h2
   simp[h1]
  ·simp[h1,h2]
theorem rvalue_end {Z:Nat→Prop}{wr w1:World}{b n a0 g1 off1 cp cap:Nat}{a:Option Addr}{v:RV}{st:RSt}{x:Val}{c z:VC}{ks:List VC}{X:Obj}(R:RX Z wr b v st)(hv:v.vk= .slice a n cap)(hn:ks.length=n)(hcl:ks.length=st.consts.length)(hce:∀(i:Nat) (c:VC) (x:Val),ks[i]? =some c→st.consts[i]? =some x→CF (fun j=>¬RO v b j∧Z j) wr c x)
  (C:CF (fun j=>¬RO v b j∧Z j) wr c x)(hr:RowAt w1 39 (.slice (some ⟨g1,off1,none⟩) (n+1) cp) (ks++[z]))(hk:Keeps (fun j=>(Value.slice a n cap).ownBlock=some j) (wr.drew.alloc X) w1)
  (hf:∀g,(Value.slice (some ⟨g1,off1,none⟩) (n+1) cp).ownBlock=some g→(Value.slice a n cap).ownBlock=some g∨(wr.drew.alloc X).heap.size≤g)(ha:a0=n):
  RX Z (((((w1.setCell ⟨g1,off1+a0*4,none⟩ (.int .i64 c.kind)).setCell ⟨g1,off1+a0*4+1,none⟩ (.int .i64 c.n)).setCell ⟨g1,off1+a0*4+2,none⟩ (.string c.s)).setCell ⟨g1,off1+a0*4+3,none⟩ (.slice c.la c.ln c.lc)).setCell ⟨b,1,none⟩ (.slice (some ⟨g1,off1,none⟩) (n+1) cp)) b {v with vk:=.slice (some ⟨g1,off1,none⟩) (n+1) cp} {st with consts:=st.consts++[x]}∧
  RK b v wr {v with vk:=.slice (some ⟨g1,off1,none⟩) (n+1) cp} (((((w1.setCell ⟨g1,off1+a0*4,none⟩ (.int .i64 c.kind)).setCell ⟨g1,off1+a0*4+1,none⟩ (.int .i64 c.n)).setCell ⟨g1,off1+a0*4+2,none⟩ (.string c.s)).setCell ⟨g1,off1+a0*4+3,none⟩ (.slice c.la c.ln c.lc)).setCell ⟨b,1,none⟩ (.slice (some ⟨g1,off1,none⟩) (n+1) cp)):=by
 subst ha
 have B0:Below wr.heap.size wr (wr.drew.alloc X):=((Below.refl _ _).drew).alloc (Nat.le_refl _) _
 have K0:Keeps (fun _=>False) wr (wr.drew.alloc X):=zkb B0
 have RA:=R.ext B0
 have hs:=hr.set (i:=a0) (by simp;omega) c
 have el:(ks++[z]).set a0 c=ks++[c]:=by
  rw[List.set_append_right _ _ (by omega),show a0 - ks.length=0 from by omega]
  rfl
 rw[el]at hs
 have hs':RowAt ((((w1.setCell ⟨g1,off1+a0*4,none⟩ (.int .i64 c.kind)).setCell ⟨g1,off1+a0*4+1,none⟩ (.int .i64 c.n)).setCell ⟨g1,off1+a0*4+2,none⟩ (.string c.s)).setCell ⟨g1,off1+a0*4+3,none⟩ (.slice c.la c.ln c.lc)) 39 (.slice (some ⟨g1,off1,none⟩) (a0+1) cp) (ks++[c]):=hs
 have kf:(fun j=>(Value.slice a a0 cap).ownBlock=some j)=(fun j=>v.vk.ownBlock=some j):=by rw[hv]
 have hf':∀g,(Value.slice (some ⟨g1,off1,none⟩) (a0+1) cp).ownBlock=some g→v.vk.ownBlock=some g∨(wr.drew.alloc X).heap.size≤g:=by rw[hv];exact hf
 have hg:(Value.slice a a0 cap).ownBlock=some g1∨(wr.drew.alloc X).heap.size≤g1:=hf g1 rfl
 have K4:Keeps (fun j=>v.vk.ownBlock=some j) (wr.drew.alloc X) ((((w1.setCell ⟨g1,off1+a0*4,none⟩ (.int .i64 c.kind)).setCell ⟨g1,off1+a0*4+1,none⟩ (.int .i64 c.n)).setCell ⟨g1,off1+a0*4+2,none⟩ (.string c.s)).setCell ⟨g1,off1+a0*4+3,none⟩ (.slice c.la c.ln c.lc)):=by
  rw[kf]at hk
  rw[hv]at hk⊢
  exact(((hk.setCell (p:=⟨g1,off1+a0*4,none⟩) hg _).setCell (p:=⟨g1,off1+a0*4+1,none⟩) hg _).setCell (p:=⟨g1,off1+a0*4+2,none⟩) hg _).setCell (p:=⟨g1,off1+a0*4+3,none⟩) hg _
 have V:VRow (fun j=>(¬RO v b j∧Z j)∧¬(Value.slice (some ⟨g1,off1,none⟩) (a0+1) cp).ownBlock=some j) ((((w1.setCell ⟨g1,off1+a0*4,none⟩ (.int .i64 c.kind)).setCell ⟨g1,off1+a0*4+1,none⟩ (.int .i64 c.n)).setCell ⟨g1,off1+a0*4+2,none⟩ (.string c.s)).setCell ⟨g1,off1+a0*4+3,none⟩ (.slice c.la c.ln c.lc)) 39 (.slice (some ⟨g1,off1,none⟩) (a0+1) cp) (st.consts++[x]):=by
  refine VRow.app (F:=fun j=>(¬RO v b j∧Z j)∧j<wr.heap.size) (w:=wr.drew.alloc X) (v:=v.vk) hcl (fun i c x h1 h2=>((hce i c x h1 h2).mono (fun g h l=>⟨h,l⟩)).keep K0 (fun _ _ f=>f)) ((C.mono (fun g h l=>⟨h,l⟩)).keep K0 (fun _ _ f=>f)) hs' K4 (fun g h e=>h.1.1 (.inr (.inr (.inr (.inl e))))) (fun g h _=>⟨h.1,fun e=> ?_⟩)
  rcases hf' g e with h1|h1
  ·exact h.1.1 (.inr (.inr (.inr (.inl h1))))
  ·have:=h.2;simp at h1;omega
 have S:=RA.setConsts V K4 hf'
 exact⟨S.1,(RK.ext B0).trans S.2⟩
def VRel (W:World)(x:Val)(l:List Val)(gk:Nat)(v12:Value)(wr:World):Prop:=
 ∃i:Nat,v12= .int .i64 i∧i≤l.length∧gk=l.length - i∧seekV x (l.drop i) i=seekV x l 0∧Below W.heap.size W wr
theorem rvalue_any {Z:Nat→Prop}(b:Nat)(v:RV)(st:RSt)(x:Val)(ck cn:Int)(cs:ByteArray)(la:Option Addr)(ln lc:Nat)(W:World)(R:RX Z W b v st)(C:CF (fun j=>¬RO v b j∧Z j) W ⟨ck,cn,cs,la,ln,lc⟩ x)(hl:st.consts.length≤4294967296)(i0:Nat)(l':List Val)(hr:addV x st.consts=(i0,l')):
  Calls Tryz.prog 79 #[.pointer (some ⟨b,0,none⟩),.agg #[.int .i64 ck,.int .i64 cn,.string cs,.slice la ln lc]] W (RPost Z W b v (.int .i64 i0) {st with consts:=l'}):=by
 obtain⟨vc,vk,vn,vj,pl,mb⟩:=v
 obtain⟨a,cap,rfl⟩:∃a cap,vk= .slice a st.consts.length cap:=R.consts.slice
 have b0:=zlt R.h
 have c1:=zca R.h 1 rfl
 have f0:∀o,W.frozen? ⟨b,o,none⟩=false:=fun o=>zfr R.h o
 have el:=(R.consts.vf (G:=fun _=>True) (fun _ _=>trivial) (fun _ _=>trivial)).elems.2.2
 unfold addV at hr
 have HR:=zh4 R hr el C
 clear R hr el C
 go_enter Tryz.func79,Tryz.ntmps79
 go_wp2_with fail
 obtain⟨w0,hw0⟩:∃w0,w0=W.alloc (.cells #[.int .i64 ck,.int .i64 cn,.string cs,.slice la ln lc] 39):=⟨_,rfl⟩
 have B0:=zba hw0
 have q:∀o,w0.cell? ⟨W.heap.size,o,none⟩=(#[.int .i64 ck,.int .i64 cn,.string cs,.slice la ln lc]:Array Value)[o]? :=fun o=>by rw[hw0,zch (heap_alloc_new _ _)]
 have sz0:w0.heap.size=W.heap.size+1:=by rw[hw0];simp
 rw[←hw0]
 have H0:=zh3 B0 q sz0
 clear hw0 B0 q sz0 c1 f0
 go_loopg [12] (st.consts.length) (fun gk v12 wr=>VRel w0 x st.consts gk v12 wr)
 case atStart=>exact⟨0,rfl,Nat.zero_le _,rfl,rfl,Below.refl _ _⟩
 case round=>
  obtain⟨i,rfl,hi,hgk,hs,hB⟩:=hrel
  have q0:=(hB.cell (p:=⟨W.heap.size,0,none⟩) (show W.heap.size<w0.heap.size by have:=H0.out.2.2;omega)).trans (H0.out.2.1 0)
  have q1:=(hB.cell (p:=⟨W.heap.size,1,none⟩) (show W.heap.size<w0.heap.size by have:=H0.out.2.2;omega)).trans (H0.out.2.1 1)
  have q2:=(hB.cell (p:=⟨W.heap.size,2,none⟩) (show W.heap.size<w0.heap.size by have:=H0.out.2.2;omega)).trans (H0.out.2.1 2)
  have q3:=(hB.cell (p:=⟨W.heap.size,3,none⟩) (show W.heap.size<w0.heap.size by have:=H0.out.2.2;omega)).trans (H0.out.2.1 3)
  simp only[List.getElem?_toArray,List.getElem?_cons_zero,List.getElem?_cons_succ]at q0 q1 q2 q3
  have szr:=hB.size
  have lr:W.heap.size<wr.heap.size:=by have:=H0.out.2.2;omega
  have BW:=H0.out.1.trans (hB.mono (show W.heap.size≤w0.heap.size by have:=H0.out.2.2;omega))
  by_cases hin:i<st.consts.length
  ·obtain⟨y,hy⟩:=elem_at hin
   have hdr:st.consts.drop i=y::st.consts.drop (i+1):=by
    rw[List.drop_eq_getElem_cons (zge hy).1,(zge hy).2]
   rw[hdr,seekV]at hs
   obtain⟨g,off,ha,_,hg,hel⟩:=HR.out.2.2.1.resolve_left (fun e=>by rw[e]at hin;simp at hin)
   obtain⟨d,hD,m0,m1,m2,m3⟩:=hel i y hy
   subst ha
   have hgl:g<wr.heap.size:=by omega
   rw[←BW.cell (p:=⟨g,_,none⟩) hg]at m0 m1 m2 m3
   have hin':(i:Int)<st.consts.length:=by omega
   have K1:Keeps (fun _=>False) W (wr.alloc (.cells #[.int .i64 d.kind,.int .i64 d.n,.string d.s,.slice d.la d.ln d.lc] 39)):=(zkb BW).alloc _
   have SA:=zhd (fun bb hb=>same_any x y ⟨ck,cn,cs,la,ln,lc⟩ d _ _ _ (HR.out.2.2.2.keep K1 (fun _ _ f=>f)) (hD.keep K1 (fun _ _ f=>f)) bb hb)
   cases hq:(cmpV x y==0)
   all_goals
    rw[hq]at hs
    simp only[cond_true,cond_false]at hs
    have HX:=zh4 hs hgk hB BW
    have SB:=zhd (SA.out _ hq)
    clear hs hgk hq hdr hy hB BW hel hD K1 SA
    go_wp2_with fail
    refine SB.out.mono ?_
    rintro e w5 ⟨rfl,hB5⟩
    have H5:=zhd (show Below wr.heap.size wr w5 from(zal).trans (hB5.mono (by simp)))
    clear hB5 SB
    go_wp2_with fail
   ·go_roundg (st.consts.length - (i+1))
    case measure=>have:=HX.out.2.1;omega
    case rel=>exact⟨i+1,by simp,by omega,rfl,HX.out.1,HX.out.2.2.1.trans (H5.out.mono szr)⟩
   ·have hr:=HR.out.2.1
    rw[←HX.out.1]at hr
    cases hr
    have BE:=HX.out.2.2.2.trans (H5.out.mono (Nat.le_of_lt lr))
    go_ret
    exact⟨_,rfl,zhd ⟨HR.out.1.ext BE,RK.ext BE⟩⟩
  ·obtain rfl:i=st.consts.length:=by omega
   rw[List.drop_eq_nil_of_le (Nat.le_refl _),seekV]at hs
   have hr:=HR.out.2.1
   rw[←hs]at hr
   cases hr
   have HX:=zh3 (HR.out.1.ext BW) BW (HR.out.2.2.2.keep (zkb (S:=fun _=>False) BW) (fun _ _ f=>f))
   have c1:=zca HX.out.1.h 1 rfl
   have f0:∀o,wr.frozen? ⟨b,o,none⟩=false:=fun o=>zfr HX.out.1.h o
   have b1:b<wr.heap.size:=zlt HX.out.1.h
   have HR0:=zhd (show∀g,(Value.slice a st.consts.length cap).ownBlock=some g→g<W.heap.size from fun g hg=>HR.out.1.lt (.inr (.inr (.inr (.inl hg)))))
   clear HR hs hgk hB BW
   obtain⟨ks,hR,hcl,hce⟩:=HX.out.1.consts
   have HK:=zh3 hR hcl hce
   clear hR hcl hce
   have nb:∀g,(Value.slice a st.consts.length cap).ownBlock=some g→g≠b∧g≠W.heap.size:=fun g hg=>⟨(HX.out.1.sep.k g hg).1,fun e=>by have:=HR0.out g hg;omega⟩
   have hix:(st.consts.length:Int)<(st.consts.length:Int)+1:=by omega
   have hi0:(0:Int)≤(st.consts.length:Int):=by omega
   have NB:=zhd nb
   have n6:¬W.heap.size=b:=by have:=zlt HX.out.1.h;have:=HX.out.2.1.size;omega
   have HBD:=zhd (show(ks.length+[(⟨0,0,⟨#[]⟩,none,0,0⟩:VC)].length)*56≤140737488355328∧ks.length+[(⟨0,0,⟨#[]⟩,none,0,0⟩:VC)].length≤maxLen∧ks.length+[(⟨0,0,⟨#[]⟩,none,0,0⟩:VC)].length=st.consts.length+1 from by have:=HK.out.2.1;unfold maxLen;simp;omega)
   clear nb
   go_wp2_with fail
   go_region_law ((refine step_apps (α:=VC) (o:=⟨some 29,_,_,_,_,_⟩) elemV (by rfl) (.tmp 25) (.tmp 28) (by rfl) (v:=.slice a st.consts.length cap) (u:=.slice (some ⟨wr.heap.size,0,none⟩) 1 1) (by rfl) (by rfl) (xs:=ks) (ys:=[⟨0,0,⟨#[]⟩,none,0,0⟩]) ((HK.out.1.drew).alloc _) (RowAt.lit (α:=VC) (y:=⟨0,0,⟨#[]⟩,none,0,0⟩) (heap_alloc_new _ _)) HBD.out.1 HBD.out.2.1 (st.consts.length+1) HBD.out.2.2 ?_;intro a1 cp w1 hr1 hk1 hf1;obtain⟨g1,off1,rfl,⟨m0,m1,m2,m3⟩,fm,ob,obf,oB,⟨n1,n2,n3,n4⟩,l1,l2,l3⟩:=app_facts (b:=b) (B:=W.heap.size) HK.out.2.1 hr1 hk1 hf1 b1 lr NB.out;have y1:=(ob 1).trans c1;have y2:=(oB 0).trans q0;have y3:=(oB 1).trans q1;have y4:=(oB 2).trans q2;have y5:=(oB 3).trans q3;have y6:=fun o=>(obf o).trans (f0 o);have FF:=zh3 hr1 hk1 hf1;clear hr1 hk1 hf1 ob obf oB))
   all_goals
    obtain⟨w4,hw4⟩:∃w4,w4=((((w1.setCell ⟨g1,off1+st.consts.length*4,none⟩ (.int .i64 ck)).setCell ⟨g1,off1+st.consts.length*4+1,none⟩ (.int .i64 cn)).setCell ⟨g1,off1+st.consts.length*4+2,none⟩ (.string cs)).setCell ⟨g1,off1+st.consts.length*4+3,none⟩ (.slice la ln lc)).setCell ⟨b,1,none⟩ (.slice (some ⟨g1,off1,none⟩) (st.consts.length+1) cp):=⟨_,rfl⟩
    have hw5:w4=((((w1.setCell ⟨b,1,none⟩ (.slice (some ⟨g1,off1,none⟩) (st.consts.length+1) cp)).setCell ⟨g1,off1+st.consts.length*4,none⟩ (.int .i64 ck)).setCell ⟨g1,off1+st.consts.length*4+1,none⟩ (.int .i64 cn)).setCell ⟨g1,off1+st.consts.length*4+2,none⟩ (.string cs)).setCell ⟨g1,off1+st.consts.length*4+3,none⟩ (.slice la ln lc):=by rw[hw4,setCell_comm n1,setCell_comm n1,setCell_comm n1,setCell_comm n1]
    first
    |rw[←hw4]
    |rw[←hw5]
    have S:=rvalue_end (c:=⟨ck,cn,cs,la,ln,lc⟩) (x:=x) HX.out.1 rfl HK.out.2.1 HK.out.2.1 HK.out.2.2 HX.out.2.2 FF.out.1 FF.out.2.1 FF.out.2.2 rfl
    rw[←hw4]at S
    have HS:=zhd S
    have d1:=zca S.1.h 1 rfl
    have bl4:b<w4.heap.size:=zlt S.1.h
    clear S hw4 hw5 y1 y2 y3 y4 y5 y6 m0 m1 m2 m3 fm c1 f0 q0 q1 q2 q3
    go_wp2_with fail
    go_ret
    exact⟨_,rfl,zhd ⟨HS.out.1,(RK.ext HX.out.2.1).trans HS.out.2⟩⟩
end Go.Proofs.YtakljipkaoahnaaGreatDoor
