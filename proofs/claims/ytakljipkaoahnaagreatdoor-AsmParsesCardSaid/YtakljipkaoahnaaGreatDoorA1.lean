/- Parts of the proof: what the functions and the plain laws give that later parts lean on. Conditions: none beyond those that each theorem names. -/
import Derived.WalkKit
import Derived.WalkSpells
import Derived.WalkLawsBesides
import Derived.Lib.Hide
import Derived.Deep.QuietTactic
import Derived.BigQuiet
import Derived.StillTailTactics
import Derived.Deep.RegionHeld3
import Derived.Deep.RegionLaw
import Derived.Deep.RegionWith
import Derived.Deep.DeepCutAuto
import Derived.Deep.LoopGhost
import Derived.Deep.DeepFit
import Derived.Maps.Own
import Derived.Maps.OwnOps
import Derived.Maps.OwnSet
import Derived.DeepKeys4
import Derived.BigGuardPart
set_option maxRecDepth 100000
set_option maxHeartbeats 8000000
namespace Go.Own
open Go.RowKit
structure Keeps (S:Nat→Prop)(w w':World):Prop where
 os:w'.os=w.os
 tape:w'.tape=w.tape
 output:w'.output=w.output
 size:w.heap.size≤w'.heap.size
 block:∀k,k<w.heap.size→¬S k→w'.heap[k]? =w.heap[k]?
namespace Keeps
variable{S T:Nat→Prop} {w w' w'':World}
theorem refl (S:Nat→Prop)(w:World):Keeps S w w:=⟨rfl,rfl,rfl,Nat.le_refl _,fun _ _ _=>rfl⟩
theorem trans (h:Keeps S w w')(k:Keeps T w' w'')(hs:∀j,j<w.heap.size→T j→S j):Keeps S w w'':=
 ⟨k.os.trans h.os,k.tape.trans h.tape,k.output.trans h.output,Nat.le_trans h.size k.size,fun j hj hn=>
   (k.block j (Nat.lt_of_lt_of_le hj h.size) (fun t=>hn (hs j hj t))).trans (h.block j hj hn)⟩
theorem mono (h:Keeps S w w')(hs:∀j,j<w.heap.size→S j→T j):Keeps T w w':=
 ⟨h.os,h.tape,h.output,h.size,fun j hj hn=>h.block j hj (fun s=>hn (hs j hj s))⟩
theorem drew (h:Keeps S w w'):Keeps S w w'.drew:=⟨h.os,h.tape,h.output,h.size,h.block⟩
theorem alloc (h:Keeps S w w')(o:Obj):Keeps S w (w'.alloc o):=
 h.trans (T:=fun _=>False) ⟨rfl,rfl,rfl,by simp,fun k hk _=>Below.heap_alloc _ _ _ hk⟩ (fun _ _ f=>f.elim)
theorem setCell (h:Keeps S w w'){p:Addr}(hp:S p.block∨w.heap.size≤p.block)(u:Value):Keeps S w (w'.setCell p u):=
 h.trans (T:=fun j=>j=p.block) ⟨rfl,rfl,rfl,by simp[World.setCell],fun k _ hn=>Below.heap_setCell _ _ _ _ hn⟩
  (fun j hj e=>by subst e;rcases hp with hp|hp;exact hp;omega)
theorem of_below (h:Below w.heap.size w w'):Keeps S w w':=⟨h.os,h.tape,h.output,h.size,fun k hk _=>h.block k hk⟩
theorem of_grown {row:Option Nat}(h:w.grownBy w' row)(hs:∀k,row=some k→S k):Keeps S w w':=
 ⟨h.os,h.tape,h.output,h.size,fun k hk hn=>h.block k hk (fun e=>hn (hs k e.symm))⟩
theorem below (h:Keeps S w w'){B:Nat}(hB:B≤w.heap.size)(hs:∀k,k<B→¬S k):Below B w w':=
 ⟨h.os,h.tape,h.output,h.size,fun k hk=>h.block k (by omega) (hs k hk)⟩
theorem cell (h:Keeps S w w'){p:Addr}(hp:p.block<w.heap.size)(hn:¬S p.block):w'.cell? p=w.cell? p:=
 World.cell?_of_block (w:=w) (h.block p.block hp hn)
theorem frozen (h:Keeps S w w'){p:Addr}(hp:p.block<w.heap.size)(hn:¬S p.block):w'.frozen? p=w.frozen? p:=
 World.frozen?_of_block (w:=w) (h.block p.block hp hn)
end Keeps
theorem lt_of_heap {w:World}{b:Nat}{o:Obj}(h:w.heap[b]? =some o):b<w.heap.size:=(Array.getElem?_eq_some_iff.1 h).1
theorem cell_of_heap {w:World}{b:Nat}{c:Array Value}{t:TypeId}{fr:Nat×Nat}(h:w.heap[b]? =some (.cells c t fr))(o:Nat):w.cell? ⟨b,o,none⟩=c[o]? :=by
 simp[World.cell?,h]
theorem frozen_of_heap {w:World}{b:Nat}{c:Array Value}{t:TypeId}(h:w.heap[b]? =some (.cells c t (0,0)))(o:Nat):w.frozen? ⟨b,o,none⟩=false:=by
 simp[World.frozen?,h]
class Cells (α:Type) where
 sz:Nat
 enc:α→List Value
 len:∀x,(enc x).length=sz
 one:∀x,∀v∈enc x,v.oneCell'=true
open Cells (sz enc)
def RowAt {α:Type}[Cells α](w:World)(e:TypeId)(v:Value)(xs:List α):Prop:=
 (v= .slice none 0 0∧xs=[])∨
 ∃g off cap cur,v= .slice (some ⟨g,off,none⟩) xs.length cap∧w.heap[g]? =some (.cells cur e (0,0))∧xs.length≤cap∧cap≤maxLen∧off+cap*sz α≤cur.size∧
  ∀j u,(xs.flatMap enc)[j]? =some u→cur[off+j]? =some u
theorem flat_len {α:Type}[Cells α](xs:List α):(xs.flatMap enc).length=xs.length*sz α:=by
 induction xs with
 |nil=>simp
 |cons x r ih=>simp[List.flatMap_cons,ih,Cells.len,Nat.add_mul,Nat.add_comm]
theorem flat_get {α:Type}[Cells α]:∀(xs:List α) (i j:Nat) (x:α),xs[i]? =some x→j<sz α→(xs.flatMap enc)[i*sz α+j]? =(enc x)[j]?
 |[],i,j,x,h,_=>by simp at h
 |y::r,0,j,x,h,hj=>by
  simp at h;subst h
  simp only[List.flatMap_cons,Nat.zero_mul,Nat.zero_add]
  rw[List.getElem?_append_left (by rw[Cells.len];exact hj)]
 |y::r,i+1,j,x,h,hj=>by
  simp at h
  simp only[List.flatMap_cons]
  rw[List.getElem?_append_right (by rw[Cells.len,Nat.add_mul];omega),Cells.len]
  have:(i+1)*sz α+j - sz α=i*sz α+j:=by rw[Nat.add_mul];omega
  rw[this]
  exact flat_get r i j x h hj
theorem flat_one {α:Type}[Cells α](xs:List α):∀u∈xs.flatMap enc,u.oneCell'=true:=by
 intro u hu
 obtain⟨x,_,h⟩:=List.mem_flatMap.1 hu
 exact Cells.one x u h
namespace RowAt
variable{α:Type} [Cells α] {w w':World} {e:TypeId} {v:Value} {xs:List α}
theorem nil (w:World)(e:TypeId):RowAt (α:=α) w e (.slice none 0 0) []:=.inl ⟨rfl,rfl⟩
theorem slice (h:RowAt w e v xs):∃a cap,v= .slice a xs.length cap:=by
 rcases h with⟨rfl,rfl⟩|⟨g,off,cap,cur,rfl,_⟩
 ·exact⟨none,0,rfl⟩
 ·exact⟨_,cap,rfl⟩
theorem frame (h:RowAt w e v xs)(hb:∀g,v.ownBlock=some g→w'.heap[g]? =w.heap[g]?):RowAt w' e v xs:=by
 rcases h with h|⟨g,off,cap,cur,rfl,hg,h⟩
 ·exact .inl h
 ·exact .inr ⟨g,off,cap,cur,rfl,by rw[hb g rfl];exact hg,h⟩
theorem lt (h:RowAt w e v xs){g:Nat}(hg:v.ownBlock=some g):g<w.heap.size:=by
 rcases h with⟨rfl,_⟩|⟨g',off,cap,cur,rfl,hh,_⟩
 ·cases hg
 ·simp[Value.ownBlock]at hg;subst hg;exact lt_of_heap hh
theorem keep {S:Nat→Prop}(h:RowAt w e v xs)(hk:Keeps S w w')(hs:∀g,v.ownBlock=some g→¬S g):RowAt w' e v xs:=
 h.frame fun g hg=>hk.block g (h.lt hg) (hs g hg)
theorem cells {g off n cap:Nat}(h:RowAt w e (.slice (some ⟨g,off,none⟩) n cap) xs):
  ∀j u,(xs.flatMap enc)[j]? =some u→w.cell? ⟨g,off+j,none⟩=some u:=by
 rcases h with⟨h,_⟩|⟨g',off',cap',cur,hv,hg,_,_,_,hc⟩
 ·cases h
 ·cases hv
  intro j u hu
  rw[cell_of_heap hg]
  exact hc j u hu
theorem cell {g off n cap:Nat}(h:RowAt w e (.slice (some ⟨g,off,none⟩) n cap) xs){i:Nat}{x:α}(hx:xs[i]? =some x){j:Nat}(hj:j<sz α):
  w.cell? ⟨g,off+(i*sz α+j),none⟩=(enc x)[j]? :=by
 have hu:(enc x)[j]? =some ((enc x)[j]'(by rw[Cells.len];exact hj)):=List.getElem?_eq_getElem _
 rw[hu]
 exact h.cells _ _ (by rw[flat_get xs i j x hx hj];exact hu)
theorem frozen {g off n cap:Nat}(h:RowAt w e (.slice (some ⟨g,off,none⟩) n cap) xs)(o:Nat):w.frozen? ⟨g,o,none⟩=false:=by
 rcases h with⟨h,_⟩|⟨g',off',cap',cur,hv,hg,_⟩
 ·cases h
 ·cases hv
  exact frozen_of_heap hg o
end RowAt
theorem setCells_other (b:Nat):∀(l:List Value) (o:Nat) (w:World) (k:Nat),k≠b→(w.setCells b o l).heap[k]? =w.heap[k]?
 |[],_,_,_,_=>rfl
 |v::r,o,w,k,h=>by
  rw[World.setCells,setCells_other b r (o+1) _ k h]
  exact Below.heap_setCell _ _ _ _ h
theorem setCells_same (b:Nat)(t:TypeId)(fr:Nat×Nat):∀(l:List Value) (o:Nat) (w:World) (cur:Array Value),w.heap[b]? =some (.cells cur t fr)→
  ∃cur',(w.setCells b o l).heap[b]? =some (.cells cur' t fr)∧cur'.size=cur.size∧(∀j u,l[j]? =some u→o+j<cur.size→cur'[o+j]? =some u)∧(∀k,k<o∨o+l.length≤k→cur'[k]? =cur[k]?)
 |[],o,w,cur,h=>⟨cur,h,rfl,by simp,fun _ _=>rfl⟩
 |v::r,o,w,cur,h=>by
  have h1:(w.setCell ⟨b,o,none⟩ v).heap[b]? =some (.cells (cur.setIfInBounds o v) t fr):=by
   simp[World.setCell,Array.getElem?_modify,h]
  obtain⟨cur',h2,h3,h4,h5⟩:=setCells_same b t fr r (o+1) _ _ h1
  refine⟨cur',h2,by rw[h3];simp,fun j u hu hj=> ?_,fun k hk=> ?_⟩
  ·cases j with
   |zero=>
    simp at hu;subst hu
    rw[h5 _ (by omega)]
    simp at hj
    simp[hj]
   |succ j=>
    have:=h4 j u (by simpa using hu) (by simp;omega)
    rw[←this]
    congr 1;omega
  ·rw[h5 k (by simp at hk;omega)]
   rw[Array.getElem?_setIfInBounds]
   simp at hk
   rw[if_neg (by omega)]
theorem setCells_size (b:Nat):∀(l:List Value) (o:Nat) (w:World),(w.setCells b o l).heap.size=w.heap.size∧(w.setCells b o l).os=w.os∧(w.setCells b o l).tape=w.tape∧(w.setCells b o l).output=w.output
 |[],_,_=>⟨rfl,rfl,rfl,rfl⟩
 |v::r,o,w=>by
  obtain⟨h1,h2,h3,h4⟩:=setCells_size b r (o+1) (w.setCell ⟨b,o,none⟩ v)
  exact⟨by rw[World.setCells,h1];simp[World.setCell],h2,h3,h4⟩
theorem Keeps.setCells {S:Nat→Prop}{w w':World}(h:Keeps S w w'){b:Nat}(hb:S b∨w.heap.size≤b)(o:Nat)(l:List Value):Keeps S w (w'.setCells b o l):=by
 obtain⟨h1,h2,h3,h4⟩:=setCells_size b l o w'
 exact h.trans (T:=fun j=>j=b) ⟨h2,h3,h4,by rw[h1];exact Nat.le_refl _,fun k _ hn=>setCells_other b l o w' k hn⟩ (fun j hj e=>by subst e;rcases hb with hb|hb;exact hb;omega)
theorem RowAt.set {α:Type}[Cells α]{w:World}{e:TypeId}{xs:List α}{g off n cap:Nat}(h:RowAt w e (.slice (some ⟨g,off,none⟩) n cap) xs){i:Nat}(hi:i<xs.length)(y:α):
  RowAt (w.setCells g (off+i*sz α) (enc y)) e (.slice (some ⟨g,off,none⟩) n cap) (xs.set i y):=by
 rcases h with⟨h,_⟩|⟨g',off',cap',cur,hv,hg,h1,h2,h3,hc⟩
 ·cases h
 ·cases hv
  obtain⟨cur',k1,k2,k3,k4⟩:=setCells_same g e (0,0) (enc y) (off+i*sz α) w cur hg
  have hb:off+(i*sz α+sz α)≤cur.size:=by
   have:(i+1)*sz α≤cap*sz α:=Nat.mul_le_mul_right _ (by omega)
   rw[Nat.add_mul]at this
   omega
  refine .inr ⟨g,off,cap,cur',by simp,k1,by simpa using h1,h2,by rw[k2];exact h3,fun j u hu=> ?_⟩
  have hjl:=(List.getElem?_eq_some_iff.1 hu).1
  rw[flat_len,List.length_set]at hjl
  have hs:0<sz α:=by
   rcases Nat.eq_zero_or_pos (sz α)with h0|h0
   ·rw[h0]at hjl;simp at hjl
   ·exact h0
  have hd:=Nat.div_add_mod j (sz α)
  have hm:=Nat.mod_lt j hs
  generalize hq:j/sz α=q at hd
  generalize hr:j%sz α=r at hd hm
  have hqn:q<xs.length:=by rw[←hq];exact Nat.div_lt_of_lt_mul (by rw[Nat.mul_comm];exact hjl)
  have hjq:j=q*sz α+r:=by rw[Nat.mul_comm];omega
  subst hjq
  by_cases hqi:q=i
  ·subst hqi
   have hx:(xs.set q y)[q]? =some y:=by simp[hqn]
   rw[flat_get _ q r y hx hm]at hu
   have:=k3 r u hu (by omega)
   rw[←this];congr 1;omega
  ·have hx:(xs.set i y)[q]? =some xs[q]:=by rw[List.getElem?_set_ne (fun e=>hqi e.symm)];simp
   rw[flat_get _ q r _ hx hm,←flat_get xs q r _ (by simp:xs[q]? =some xs[q]) hm]at hu
   rw[k4 _ ?_]
   ·exact hc _ u hu
   ·rw[Cells.len]
    rcases Nat.lt_or_gt_of_ne hqi with hlt|hgt
    ·left
     have:(q+1)*sz α≤i*sz α:=Nat.mul_le_mul_right _ hlt
     rw[Nat.add_mul]at this
     omega
    ·right
     have:(i+1)*sz α≤q*sz α:=Nat.mul_le_mul_right _ hgt
     rw[Nat.add_mul]at this
     omega
section
variable{α:Type} [Cells α] {P:Program} {w:World}
theorem run_append (t ty e:TypeId)(i:TypeInfo)(z:Value)(bytes:Nat)(ht:P.underlying t=some (.slice e))(hi:P.info? e=some i)(hz:i.zero=some z)
  (hsize:i.size=sz α)(hby:i.bytes=bytes)(hzs:z.cells.size=sz α)
  {v:Value}{xs:List α}(h:RowAt w e v xs)(ad:Addr)(m c:Nat)(ys:List α)(hm:ys.length=m)(hnews:∀j u,(ys.flatMap enc)[j]? =some u→w.cell? (ad.add j)=some u)
  (hbytes:(xs.length+m)*bytes≤140737488355328)(h63:xs.length+m≤maxLen):
  ∃v' w',(Builtin.append_ #[t,t] ty #[v,.slice (some ad) m c]).run P w= .ok v' w'∧RowAt w' e v' (xs++ys)∧w.grownBy w' v.ownBlock∧
   (∀g,v'.ownBlock=some g→v.ownBlock=some g∨(w.heap.size≤g∧g<w'.heap.size)):=by
 subst hm
 have hsmall:xs.length+ys.length≤9223372036854775807:=by simp only[maxLen]at h63;omega
 have grown:∀(old:Nat),old<xs.length+ys.length→∀(row:Option Nat),
   RowAt (w.drew.alloc (.cells ((xs.flatMap enc).toArray++(ys.flatMap enc).toArray++Builtin.zeroCells z.cells (grownCap w (xs.length+ys.length) old e - (xs.length+ys.length))) e)) e
    (.slice (some ⟨w.heap.size,0,none⟩) (xs.length+ys.length) (grownCap w (xs.length+ys.length) old e)) (xs++ys)∧
   w.grownBy (w.drew.alloc (.cells ((xs.flatMap enc).toArray++(ys.flatMap enc).toArray++Builtin.zeroCells z.cells (grownCap w (xs.length+ys.length) old e - (xs.length+ys.length))) e)) row:=by
  intro old ho row
  have hge:=grownCap_ge w (xs.length+ys.length) old e
  have hcm:grownCap w (xs.length+ys.length) old e≤maxLen:=grownCap_le_maxLen w _ old e h63
  refine⟨.inr ⟨w.heap.size,0,_,_,by simp,heap_alloc_new w.drew _,by simpa using hge,hcm,?_,?_⟩,⟨rfl,rfl,rfl,by simp,fun k hk _=>Below.heap_alloc w.drew _ k hk⟩⟩
  ·simp only[Array.size_append,List.size_toArray,size_zeroCells,hzs,flat_len,←Nat.add_mul,Nat.zero_add]
   refine Nat.mul_le_mul_right _ ?_
   omega
  ·intro j u hu
   rw[List.flatMap_append]at hu
   have hlt:=(List.getElem?_eq_some_iff.1 hu).1
   rw[Nat.zero_add,Array.getElem?_append_left (by simpa using hlt)]
   simpa using hu
 rcases h with⟨rfl,rfl⟩|⟨g,off,cap,cur,rfl,hg,hnc,hcm,hcs,hcells⟩
 ·by_cases hm:ys.length=0
  ·have hn:ys=[]:=List.eq_nil_of_length_eq_zero hm
   subst hn
   refine⟨.slice none 0 0,w,?_,RowAt.nil w e,⟨rfl,rfl,rfl,Nat.le_refl _,fun _ _ _=>rfl⟩,by simp[Value.ownBlock]⟩
   simp[Builtin.append_,run_underlying ht,sizeOf,typeInfo,hi,Builtin.lenOf,Builtin.firstCells,loadCells,loadCellsFrom]
  ·have hr:=run_append_nil (P:=P) w t ty e i z ht hi hz ad ys.length c (ys.flatMap enc) (by rw[flat_len,hsize]) hnews (by omega) (by simp at hsmall;omega) (by have hb:=hbytes;simp only[List.length_nil,Nat.zero_add]at hb;rw[hby];omega)
   have hgr:=grown 0 (by simp;omega) (Value.ownBlock (.slice none 0 0))
   simp only[List.length_nil,List.nil_append,Array.empty_append,List.flatMap_nil,Nat.zero_add]at hgr
   exact⟨_,_,hr,hgr.1,hgr.2,fun g hg=>.inr (by simp[Value.ownBlock]at hg;subst hg;simp)⟩
 ·have hl:(ys.flatMap (enc (α:=α))).length=ys.length*i.size:=by rw[flat_len,hsize]
  have hlx:(xs.flatMap (enc (α:=α))).length=xs.length*i.size:=by rw[flat_len,hsize]
  have hold:∀j u,(xs.flatMap enc)[j]? =some u→w.cell? ((⟨g,off,none⟩:Addr).add j)=some u:=by
   intro j u hu
   rw[Addr.add_lit,cell_of_heap hg]
   exact hcells j u hu
  by_cases hroom:xs.length+ys.length≤cap
  ·have hfit:off+xs.length*sz α+ys.length*sz α≤cur.size:=by
    have:=Nat.mul_le_mul_right (sz α) hroom
    rw[Nat.add_mul]at this
    omega
   have hr:=run_append_room_cells (P:=P) w t ty e i ht hi g off xs.length cap ad ys.length c (ys.flatMap enc) hl hnews (flat_one ys) hroom
    (fun j hj=>by rw[cell_of_heap hg];simp;rw[hl]at hj;rw[hsize]at hj⊢;omega) (fun j _=>frozen_of_heap hg _)
   obtain⟨cur',k1,k2,k3,k4⟩:=setCells_same g e (0,0) (ys.flatMap enc) (off+xs.length*i.size) w cur hg
   obtain⟨s1,s2,s3,s4⟩:=setCells_size g (ys.flatMap enc) (off+xs.length*i.size) w
   refine⟨_,_,hr,.inr ⟨g,off,cap,cur',by simp,k1,by simpa using hroom,hcm,by rw[k2];exact hcs,fun j u hu=> ?_⟩,
    ⟨s2,s3,s4,by rw[s1];exact Nat.le_refl _,fun k _ hk=>setCells_other g _ _ w k (fun e=>hk (by simp[Value.ownBlock,e]))⟩,fun g' hg'=>.inl (by simpa[Value.ownBlock]using hg')⟩
   rw[List.flatMap_append]at hu
   by_cases hj:j<xs.length*sz α
   ·rw[List.getElem?_append_left (by rw[flat_len];exact hj)]at hu
    rw[k4 _ (by left;rw[hsize];omega)]
    exact hcells j u hu
   ·rw[List.getElem?_append_right (by rw[flat_len];omega),flat_len]at hu
    have hlt:=(List.getElem?_eq_some_iff.1 hu).1
    rw[flat_len]at hlt
    have:=k3 _ u hu (by rw[hsize];omega)
    rw[←this];congr 1;rw[hsize];omega
  ·have hr:=run_append_grow (P:=P) w t ty e i z ht hi hz ⟨g,off,none⟩ xs.length cap (xs.flatMap enc) hlx hold ad ys.length c (ys.flatMap enc) hl hnews (by omega) (by omega) (growslice_fits (by omega) (by rw[hby];exact hbytes))
   have hgr:=grown cap (by omega) (Value.ownBlock (.slice (some ⟨g,off,none⟩) xs.length cap))
   exact⟨_,_,hr,hgr.1,hgr.2,fun g' hg'=>.inr (by simp[Value.ownBlock]at hg';subst hg';simp)⟩
end
def blk (w:World)(k:Nat):Option Obj:=w.heap[k]?
@[go_sem] theorem blk_drew (w:World) (k:Nat):blk w.drew k=blk w k:=rfl
@[go_sem] theorem blk_drewN (w:World) (n k:Nat):blk (w.drewN n) k=blk w k:=rfl
@[go_sem] theorem blk_alloc (w:World) (o:Obj) (k:Nat) (h:k<w.heap.size):blk (w.alloc o) k=blk w k:=Below.heap_alloc w o k h
@[go_sem] theorem blk_setCell (w:World) (b o:Nat) (v:Value) (k:Nat) (h:¬k=b):blk (w.setCell ⟨b,o,none⟩ v) k=blk w k:=Below.heap_setCell w _ v k h
open Go.Maps
structure MapTy (κ ν:Type) where
 ke:κ→Value
 ve:ν→Value
 inj:∀a b,ke a=ke b→a=b
namespace MapTy
variable{κ ν:Type} [DecidableEq κ]
def get:List (κ×ν)→κ→Option ν
 |[],_=>none
 |(a,b)::r,k=>if a=k then some b else get r k
def upd (m:List (κ×ν))(k:κ)(v:ν):List (κ×ν):=
 if(get m k).isSome then m.map (fun p=>if p.1=k then(k,v)else p)else m++[(k,v)]
theorem get_none {m:List (κ×ν)}{k:κ}:get m k=none↔∀p∈m,p.1≠k:=by
 induction m with
 |nil=>simp[get]
 |cons p r ih=>
  obtain⟨a,b⟩:=p
  unfold get
  by_cases h:a=k
  ·subst h;simp
  ·simp[h,ih]
theorem upd_keys (m:List (κ×ν))(k:κ)(v:ν):(upd m k v).map (·.1)=if(get m k).isSome then m.map (·.1)else m.map (·.1)++[k]:=by
 unfold upd
 split
 ·rw[List.map_map]
  refine List.map_congr_left fun p _=> ?_
  simp only[Function.comp]
  split
  ·rename_i h;exact h.symm
  ·rfl
 ·simp
theorem upd_nodup {m:List (κ×ν)}(hn:(m.map (·.1)).Nodup)(k:κ)(v:ν):((upd m k v).map (·.1)).Nodup:=by
 rw[upd_keys]
 split
 ·exact hn
 ·rename_i h
  have h':get m k=none:=by simpa using h
  rw[get_none]at h'
  refine List.nodup_append.2 ⟨hn,by simp,?_⟩
  intro a ha b hb
  simp at hb;subst hb
  obtain⟨p,hp,rfl⟩:=List.mem_map.1 ha
  exact h' p hp
theorem get_append (m:List (κ×ν))(k j:κ)(v:ν)(h:get m k=none):get (m++[(k,v)]) j=if j=k then some v else get m j:=by
 induction m with
 |nil=>simp[get,eq_comm]
 |cons p r ih=>
  obtain⟨a,b⟩:=p
  unfold get at h
  by_cases hk:a=k
  ·rw[if_pos hk]at h;cases h
  ·rw[if_neg hk]at h
   simp only[List.cons_append,get]
   by_cases hj:a=j
   ·subst hj;simp[hk]
   ·rw[if_neg hj,if_neg hj];exact ih h
theorem get_map (m:List (κ×ν))(k j:κ)(v:ν):get (m.map (fun p=>if p.1=k then(k,v)else p)) j=if j=k then(if(get m k).isSome then some v else none)else get m j:=by
 induction m with
 |nil=>simp[get]
 |cons p r ih=>
  obtain⟨a,b⟩:=p
  simp only[List.map_cons]
  by_cases hk:a=k
  ·subst hk
   by_cases hj:j=a
   ·subst hj;simp[get]
   ·have hj':a≠j:=fun e=>hj e.symm
    simp only[if_true,get,hj',if_false,hj]
    rw[ih,if_neg hj]
  ·simp only[hk,if_false,get]
   by_cases hj:a=j
   ·subst hj;simp[hk]
   ·rw[if_neg hj,if_neg hj];exact ih
theorem get_upd (m:List (κ×ν))(k:κ)(v:ν)(j:κ):get (upd m k v) j=if j=k then some v else get m j:=by
 unfold upd
 split
 ·rename_i h
  rw[get_map,h]
  simp
 ·rename_i h
  exact get_append m k j v (by simpa using h)
end MapTy
open MapTy
def seek {κ ν:Type}[DecidableEq κ](x:κ):List (κ×ν)→Nat→Option (Nat×ν)
 |[],_=>none
 |(a,b)::r,i=>if a=x then some (i,b)else seek x r (i+1)
theorem seek_none {κ ν:Type}[DecidableEq κ]{x:κ}:∀{m:List (κ×ν)} {i:Nat},seek x m i=none→MapTy.get m x=none
 |[],_,_=>rfl
 |(a,b)::r,i,h=>by
  unfold seek at h
  unfold MapTy.get
  by_cases e:a=x
  ·rw[if_pos e]at h;cases h
  ·rw[if_neg e]at h⊢;exact seek_none h
theorem seek_some {κ ν:Type}[DecidableEq κ]{x:κ}:∀{m:List (κ×ν)} {i j:Nat} {v:ν},seek x m i=some (j,v)→MapTy.get m x=some v∧i≤j∧m[j - i]? =some (x,v)
 |[],_,_,_,h=>by cases h
 |(a,b)::r,i,j,v,h=>by
  unfold seek at h
  unfold MapTy.get
  by_cases e:a=x
  ·rw[if_pos e]at h⊢
   cases h
   subst e
   simp
  ·rw[if_neg e]at h⊢
   obtain⟨h1,h2,h3⟩:=seek_some h
   refine⟨h1,by omega,?_⟩
   have:j - i=(j - (i+1))+1:=by omega
   rw[this]
   simpa using h3
structure KLaw {κ ν:Type}[DecidableEq κ](M:MapTy κ ν)(P:Program)(k:TypeId):Prop where
 check:∀(W:World) (em:Bool) (x:κ),(Instr.checkKey em 10000 k (M.ke x)).run P W= .ok () W
 find:∀(W:World) (x:κ) (m:List (κ×ν)) (es:List MapEntry),es.map (fun(y:MapEntry)=>(y.key,y.val))=m.map (fun p=>(M.ke p.1,M.ve p.2))→
  (Instr.findKey k (M.ke x) es).run P W= .ok ((seek x m 0).map fun p=>(p.1,M.ve p.2)) W
 stays:∀(W:World) (x:κ),(Instr.keyThatStays (M.ke x) (M.ke x)).run P W= .ok (M.ke x) W
theorem KLaw.of_now {κ ν:Type}[DecidableEq κ]{M:MapTy κ ν}{P:Program}{k:TypeId}{d:TypeDesc}(hd:P.underlying k=some d)
  (check:∀(W:World) (em:Bool) (x:κ),(Instr.checkKey em 10000 k (M.ke x)).run P W= .ok () W)
  (now:∀x y,Instr.sameNow d (M.ke x) (M.ke y)=some (decide (x=y)))
  (bits:∀x,Instr.sameBits 10000 (M.ke x) (M.ke x)=true):KLaw M P k where
 check:=check
 find W x m es h:=by
  have ask:∀(es:List MapEntry) (m:List (κ×ν)) (i:Nat),es.map (fun(y:MapEntry)=>(y.key,y.val))=m.map (fun p=>(M.ke p.1,M.ve p.2))→
    Instr.findNow d (M.ke x) es i=some ((seek x m i).map fun p=>(p.1,M.ve p.2)):=by
   intro es
   induction es with
   |nil=>
    intro m i h
    cases m with
    |nil=>rfl
    |cons p r=>simp at h
   |cons y r ih=>
    intro m i h
    cases m with
    |nil=>simp at h
    |cons p q=>
     obtain⟨a,b⟩:=p
     simp only[List.map_cons,List.cons.injEq,Prod.mk.injEq]at h
     obtain⟨⟨h1,h2⟩,h3⟩:=h
     unfold seek Instr.findNow
     rw[h1,now]
     by_cases e:x=a
     ·simp[e,h2]
     ·have e':¬a=x:=fun h=>e h.symm
      simp only[decide_eq_false e,e',if_false]
      exact ih q (i+1) h3
  simp only[Instr.findKey,Sem.run_bind,run_underlying hd,Result.andThen_ok,ask _ _ 0 h]
  rfl
 stays W x:=by simp[Instr.keyThatStays,bits]
def MapAt {κ ν:Type}(M:MapTy κ ν)(w:World)(b:Nat)(m:List (κ×ν)):Prop:=
 ∃es clock,w.heap[b]? =some (.map es clock)∧es.toList.map (fun(y:MapEntry)=>(y.key,y.val))=m.map (fun p=>(M.ke p.1,M.ve p.2))∧(m.map (·.1)).Nodup
theorem setCell_size (w:World)(a:Addr)(v:Value):(w.setCell a v).heap.size=w.heap.size:=by simp[World.setCell]
def setBlock (w:World)(b:Nat)(o:Obj):World:={w with heap:=w.heap.setIfInBounds b o}
theorem setBlock_other (w:World)(b:Nat)(o:Obj)(j:Nat)(h:j≠b):(setBlock w b o).heap[j]? =w.heap[j]? :=by
 simp only[setBlock,Array.getElem?_setIfInBounds]
 rw[if_neg (fun e=>h e.symm)]
theorem setBlock_same (w:World)(b:Nat)(o:Obj)(h:b<w.heap.size):(setBlock w b o).heap[b]? =some o:=by
 simp[setBlock,h]
theorem setBlock_size (w:World)(b:Nat)(o:Obj):(setBlock w b o).heap.size=w.heap.size:=by simp[setBlock]
@[go_sem] theorem cell_setBlock (w:World) (b:Nat) (o:Obj) (c off:Nat) (h:¬c=b):(setBlock w b o).cell? ⟨c,off,none⟩=w.cell? ⟨c,off,none⟩:=
  World.cell?_of_block (w:=w) (setBlock_other w b o c h)
@[go_sem] theorem frozen_setBlock (w:World) (b:Nat) (o:Obj) (c off:Nat) (h:¬c=b):(setBlock w b o).frozen? ⟨c,off,none⟩=w.frozen? ⟨c,off,none⟩:=
  World.frozen?_of_block (w:=w) (setBlock_other w b o c h)
@[go_sem] theorem size_setBlock (w:World) (b:Nat) (o:Obj):(setBlock w b o).heap.size=w.heap.size:=setBlock_size w b o
@[go_sem] theorem blk_setBlock (w:World) (b:Nat) (o:Obj) (k:Nat) (h:¬k=b):blk (setBlock w b o) k=blk w k:=setBlock_other w b o k h
theorem Keeps.setBlock {S:Nat→Prop}{w w':World}(h:Keeps S w w'){b:Nat}(hb:S b∨w.heap.size≤b)(o:Obj):Keeps S w (setBlock w' b o):=
 h.trans (T:=fun j=>j=b) ⟨rfl,rfl,rfl,by rw[setBlock_size];exact Nat.le_refl _,fun k _ hn=>setBlock_other w' b o k hn⟩ (fun j hj e=>by subst e;rcases hb with hb|hb;exact hb;omega)
namespace MapAt
variable{κ ν:Type} [DecidableEq κ] {M:MapTy κ ν} {P:Program} {k e t:TypeId} {w w':World} {b:Nat} {m:List (κ×ν)}
omit [DecidableEq κ]in
theorem frame (h:MapAt M w b m)(hb:w'.heap[b]? =w.heap[b]?):MapAt M w' b m:=by
 obtain⟨es,clock,h1,h⟩:=h
 exact⟨es,clock,by rw[hb];exact h1,h⟩
omit [DecidableEq κ]in
theorem lt (h:MapAt M w b m):b<w.heap.size:=by
 obtain⟨es,clock,h1,h⟩:=h
 exact lt_of_heap h1
omit [DecidableEq κ]in
theorem made (w:World)(M:MapTy κ ν):MapAt M (w.alloc (.map #[] 0)) w.heap.size []:=
 ⟨#[],0,heap_alloc_new w _,rfl,by simp⟩
omit [DecidableEq κ]in
theorem nodup (h:MapAt M w b m):(m.map (·.1)).Nodup:=by
 obtain⟨_,_,_,_,h⟩:=h
 exact h
omit [DecidableEq κ]in
theorem keep {S:Nat→Prop}(h:MapAt M w b m)(hk:Keeps S w w')(hs:¬S b):MapAt M w' b m:=h.frame (hk.block b h.lt hs)
theorem look (h:MapAt M w b m)(K:KLaw M P k)(ht:P.underlying t=some (.map k e)){z:Value}(hz:∀W,(zeroValue e).run P W= .ok z W)(x:κ)(c:Bool):
  ∀W:World,blk W b=blk w b→(Instr.lookup t (.map (some b)) (M.ke x) c).run P W= .ok (if c then .tuple #[((MapTy.get m x).map M.ve).getD z,.bool (MapTy.get m x).isSome]else((MapTy.get m x).map M.ve).getD z) W:=by
 intro W hW
 obtain⟨es,clock,h1,h2,h3⟩:=h
 have hb:W.heap[b]? =some (.map es clock):=hW.trans h1
 have hr:=K.find W x m es.toList h2
 cases hs:seek x m 0 with
 |none=>
  rw[hs]at hr
  have hl:=seek_none hs
  simp only[Option.map_none]at hr
  simp[Instr.lookup,run_underlying ht,MapKept.run_getObj_map hb,K.check W _ x,hr,hz,Result.andThen,hl]
 |some p=>
  obtain⟨j,v⟩:=p
  rw[hs]at hr
  obtain⟨hl,_,_⟩:=seek_some hs
  simp only[Option.map_some]at hr
  simp[Instr.lookup,run_underlying ht,MapKept.run_getObj_map hb,K.check W _ x,hr,Result.andThen,hl]
theorem store (h:MapAt M w b m)(K:KLaw M P k)(ht:P.underlying t=some (.map k e))(x:κ)(v:ν):
  ∃o,(∀W:World,blk W b=blk w b→(Instr.mapUpdate t (.map (some b)) (M.ke x) (M.ve v)).run P W= .ok () (setBlock W b o))∧
   ∀W:World,W.heap[b]? =some o→MapAt M W b (upd m x v):=by
 have hn:=h.nodup
 obtain⟨es,clock,h1,h2,h3⟩:=h
 have hr:=fun W=>K.find W x m es.toList h2
 cases hs:seek x m 0 with
 |none=>
  simp only[hs,Option.map_none]at hr
  have hl:=seek_none hs
  refine⟨.map (es.push ⟨M.ke x,M.ve v,clock⟩) (clock+1),fun W hW=> ?_,fun W hW=>⟨_,_,hW,?_,MapTy.upd_nodup hn x v⟩⟩
  ·have hb:W.heap[b]? =some (.map es clock):=hW.trans h1
   simp[Instr.mapUpdate,run_underlying ht,MapKept.run_getObj_map hb,K.check W false x,hr,MapKept.run_setObj_map _ hb,Result.andThen,setBlock]
  ·simp[MapTy.upd,hl,h2]
 |some p=>
  obtain⟨j,v0⟩:=p
  simp only[hs,Option.map_some]at hr
  obtain⟨hl,_,hmj⟩:=seek_some hs
  rw[Nat.sub_zero]at hmj
  have hse:∃e0:MapEntry,es.toList[j]? =some e0∧e0.key=M.ke x:=by
   have:(m.map (fun p=>(M.ke p.1,M.ve p.2)))[j]? =some (M.ke x,M.ve v0):=by simp[hmj]
   rw[←h2]at this
   simp only[List.getElem?_map,Option.map_eq_some_iff]at this
   obtain⟨e0,he,heq⟩:=this
   exact⟨e0,he,congrArg Prod.fst heq⟩
  obtain⟨e0,hj,hk0⟩:=hse
  have hje:es[j]? =some e0:=by simpa using hj
  refine⟨.map (es.modify j fun e'=>{e' with key:=M.ke x,val:=M.ve v}) clock,fun W hW=> ?_,fun W hW=>⟨_,_,hW,?_,MapTy.upd_nodup hn x v⟩⟩
  ·have hb:W.heap[b]? =some (.map es clock):=hW.trans h1
   simp[Instr.mapUpdate,run_underlying ht,MapKept.run_getObj_map hb,K.check W false x,hr,hje,hk0,K.stays W x,MapKept.run_setObj_map _ hb,Result.andThen,setBlock]
  ·have e1:MapTy.upd m x v=m.set j (x,v):=by
    unfold MapTy.upd
    rw[hl]
    simp only[Option.isSome_some,if_true]
    refine List.ext_getElem? fun i=> ?_
    rw[List.getElem?_map,List.getElem?_set]
    by_cases hij:j=i
    ·subst hij
     rw[hmj,if_pos rfl,if_pos (List.getElem?_eq_some_iff.1 hmj).1]
     simp
    ·rw[if_neg hij]
     cases hmi:m[i]? with
     |none=>rfl
     |some p=>
      simp only[Option.map_some]
      rw[if_neg]
      intro hp
      apply hij
      have a1:(m.map (·.1))[j]? =some x:=by simp[hmj]
      have a2:(m.map (·.1))[i]? =some x:=by simp[hmi,hp]
      exact(List.getElem?_inj (List.getElem?_eq_some_iff.1 a1).1 hn).1 (a1.trans a2.symm)
   rw[e1,List.map_set,←h2,Array.toList_modify,ChangeMaps.modify_eq_set _ _ _ _ hj,List.map_set]
end MapAt
theorem wpList_append {α:Type}[Cells α]{P:Program}{w:World}{ops:Array Oper}{rest:List Oper}{o:Oper}{a:Act}{Q:Exit→Act→World→Prop}
  (hg:o.guard=none)(s x:Operand)(t:TypeId)(hop:o.op=Op.call {callee:=Callee.builtin Builtin.append,args:=#[s,x],argTypes:=#[t,t]})
  (e:TypeId)(i:TypeInfo)(z:Value)(bytes:Nat)(ht:P.underlying t=some (.slice e))(hi:P.info? e=some i)(hz:i.zero=some z)
  (hsize:i.size=sz α)(hby:i.bytes=bytes)(hzs:z.cells.size=sz α)
  (v:Value)(xs:List α)(hs:a.eval s=v)(h:RowAt w e v xs)(ad:Addr)(m c:Nat)(ys:List α)(hx:a.eval x= .slice (some ad) m c)(hm:ys.length=m)(hnews:∀j u,(ys.flatMap enc)[j]? =some u→w.cell? (ad.add j)=some u)
  (hbytes:(xs.length+m)*bytes≤140737488355328)(h63:xs.length+m≤maxLen)
  (hK:∀v' w',RowAt w' e v' (xs++ys)→w.grownBy w' v.ownBlock→(∀g,v'.ownBlock=some g→v.ownBlock=some g∨(w.heap.size≤g∧g<w'.heap.size))→wpList P ops Q rest (a.put o.dst v') w'):
  wpList P ops Q (o::rest) a w:=
 wpList_plain hg fun _ hk=>by
  obtain⟨v',w',hr,h1,h2,h3⟩:=run_append (P:=P) t o.type e i z bytes ht hi hz hsize hby hzs h ad m c ys hm hnews hbytes h63
  unfold Oper.wp execOp
  simp only[hop,resolve,invoke,builtin,Sem.run_bind,Sem.run_pure,Result.andThen_ok,List.map_toArray,List.map_cons,List.map_nil,hs,hx,hr]
  exact hk _ _ (hK v' w' h1 h2 h3)
end Go.Own
namespace Go.Own
open Go.RowKit
theorem _root_.zca {w:World}{g:Nat}{l:List Value}{t:TypeId}{f:Nat×Nat}(h:w.heap[g]? =some (.cells l.toArray t f))(k:Nat){u:Value}(e:l[k]? =some u):w.cell? ⟨g,k,none⟩=some u:=by rw[cell_of_heap h,List.getElem?_toArray];exact e
theorem _root_.zba {w w':World}{o:Obj}(h:w'=w.alloc o):Below w.heap.size w w':=by rw[h];exact(Below.refl _ _).alloc (Nat.le_refl _) _
theorem _root_.zha {w w':World}{o:Obj}(h:w'=w.alloc o):w'.heap[w.heap.size]? =some o:=by rw[h];exact heap_alloc_new _ _
theorem _root_.zal {w:World}{o:Obj}:Below w.heap.size w (w.alloc o):=(Below.refl _ _).alloc (Nat.le_refl _) _
theorem _root_.zlt {w:World}{b:Nat}{o:Obj}(h:w.heap[b]? =some o):b<w.heap.size:=lt_of_heap h
theorem _root_.zch {w:World}{b:Nat}{c:Array Value}{t:TypeId}{fr:Nat×Nat}(h:w.heap[b]? =some (.cells c t fr))(o:Nat):w.cell? ⟨b,o,none⟩=c[o]? :=cell_of_heap h o
theorem _root_.zfr {w:World}{b:Nat}{c:Array Value}{t:TypeId}(h:w.heap[b]? =some (.cells c t (0,0)))(o:Nat):w.frozen? ⟨b,o,none⟩=false:=frozen_of_heap h o
theorem _root_.zkb {S:Nat→Prop}{w w':World}(h:Below w.heap.size w w'):Keeps S w w':=Keeps.of_below h
theorem _root_.zhd {p:Prop}(h:p):Hid p:=h
theorem _root_.zh2 {a b:Prop}(x:a)(y:b):Hid (a∧b):=⟨x,y⟩
theorem _root_.zh3 {a b c:Prop}(x:a)(y:b)(z:c):Hid (a∧b∧c):=⟨x,y,z⟩
theorem _root_.zh4 {a b c d:Prop}(x:a)(y:b)(z:c)(u:d):Hid (a∧b∧c∧d):=⟨x,y,z,u⟩
theorem _root_.zh5 {a b c d e:Prop}(x:a)(y:b)(z:c)(u:d)(v:e):Hid (a∧b∧c∧d∧e):=⟨x,y,z,u,v⟩
theorem _root_.zh6 {a b c d e f:Prop}(x:a)(y:b)(z:c)(u:d)(v:e)(w:f):Hid (a∧b∧c∧d∧e∧f):=⟨x,y,z,u,v,w⟩
theorem _root_.zh7 {a b c d e f g:Prop}(x:a)(y:b)(z:c)(u:d)(v:e)(w:f)(s:g):Hid (a∧b∧c∧d∧e∧f∧g):=⟨x,y,z,u,v,w,s⟩
theorem _root_.zh8 {a b c d e f g h:Prop}(x:a)(y:b)(z:c)(u:d)(v:e)(w:f)(s:g)(t:h):Hid (a∧b∧c∧d∧e∧f∧g∧h):=⟨x,y,z,u,v,w,s,t⟩
theorem _root_.zge {α:Type}{l:List α}{i:Nat}{a:α}(h:l[i]? =some a):∃q:i<l.length,l[i]=a:=List.getElem?_eq_some_iff.1 h
theorem _root_.zmg {α:Type}{l:List α}{i:Nat}{a:α}(h:l[i]? =some a):a∈l:=List.mem_of_getElem? h
theorem _root_.zai {a b:Prop}(x:a)(y:b):a∧b:=⟨x,y⟩
end Go.Own
namespace Go.Own
open Go.RowKit Go.Own.MapTy
def Same (w:World)(k:Nat)(W:World):Prop:=blk W k=blk w k
@[go_sem] theorem same_refl (w:World) (k:Nat):Same w k w:=rfl
@[go_sem] theorem same_drew (w:World) (k:Nat) (W:World):Same w k W.drew↔Same w k W:=Iff.rfl
@[go_sem] theorem same_drewN (w:World) (k n:Nat) (W:World):Same w k (W.drewN n)↔Same w k W:=Iff.rfl
@[go_sem] theorem same_alloc (w:World) (k:Nat) (W:World) (o:Obj) (h:k<W.heap.size):Same w k (W.alloc o)↔Same w k W:=by unfold Same;rw[blk_alloc _ _ _ h]
@[go_sem] theorem same_setCell (w:World) (b o k:Nat) (v:Value) (W:World) (h:¬k=b):Same w k (W.setCell ⟨b,o,none⟩ v)↔Same w k W:=by unfold Same;rw[blk_setCell _ _ _ _ _ h]
theorem Keeps.same {S:Nat→Prop}{w W W':World}(K:Keeps S W W'){k:Nat}(hk:k<W.heap.size)(hs:¬S k)(h:Same w k W):Same w k W':=(K.block k hk hs).trans h
theorem MapAt.lookS {κ ν:Type}[DecidableEq κ]{M:MapTy κ ν}{P:Program}{k e t:TypeId}{w:World}{b:Nat}{m:List (κ×ν)}(h:MapAt M w b m)(K:KLaw M P k)(ht:P.underlying t=some (.map k e)){z:Value}(hz:∀W,(zeroValue e).run P W= .ok z W)(x:κ)(c:Bool):
  ∀W:World,Same w b W→(Instr.lookup t (.map (some b)) (M.ke x) c).run P W= .ok (if c then .tuple #[((MapTy.get m x).map M.ve).getD z,.bool (MapTy.get m x).isSome]else((MapTy.get m x).map M.ve).getD z) W:=
 fun W hW=>h.look K ht hz x c W hW
instance:Cells Int where
 sz:=1
 enc:=fun n=>[.int .i64 n]
 len:=fun _=>rfl
 one:=by intro x v hv;simp at hv;subst hv;rfl
theorem row_int {w:World}{e:TypeId}{xs:List Int}{g off n cap:Nat}(h:RowAt w e (.slice (some ⟨g,off,none⟩) n cap) xs){i:Nat}{x:Int}(hx:xs[i]? =some x):w.cell? ⟨g,off+i,none⟩=some (.int .i64 x):=by
 have:=h.cell hx (j:=0) (by decide)
 simpa[Cells.sz,Cells.enc]using this
theorem RowAt.made {α:Type}[Cells α]{w:World}{b:Nat}{e:TypeId}{cs:Array Value}{xs:List α}{n:Nat}(h:w.heap[b]? =some (.cells cs e (0,0)))(hc:cs.toList=xs.flatMap Cells.enc)(hn:n=xs.length)(hm:n≤maxLen):
  RowAt w e (.slice (some ⟨b,0,none⟩) n n) xs:=by
 subst hn
 refine .inr ⟨b,0,xs.length,cs,rfl,h,Nat.le_refl _,hm,?_,fun j u hu=> ?_⟩
 ·have:=congrArg List.length hc
  rw[flat_len]at this
  simp at this
  omega
 ·rw[←hc]at hu
  simpa using hu
instance:Cells Bool where
 sz:=1
 enc:=fun n=>[.bool n]
 len:=fun _=>rfl
 one:=by intro x v hv;simp at hv;subst hv;rfl
end Go.Own
namespace Go.Own
open Go.RowKit Go.Own.MapTy
open Cells (sz enc)
theorem bcell {W w1:World}(hb:Below W.heap.size W w1):(∀b o,b<W.heap.size→w1.cell? ⟨b,o,none⟩=W.cell? ⟨b,o,none⟩)∧(∀b o,b<W.heap.size→w1.frozen? ⟨b,o,none⟩=W.frozen? ⟨b,o,none⟩):=
 ⟨fun b o h=>hb.cell (p:=⟨b,o,none⟩) h,fun b o h=>hb.frozen (p:=⟨b,o,none⟩) h⟩
structure ElemOf (α:Type)[Cells α](P:Program)(t e:TypeId)(bytes:Nat):Prop where
 ht:P.underlying t=some (.slice e)
 hi:∃i z,P.info? e=some i∧i.zero=some z∧i.size=sz α∧i.bytes=bytes∧z.cells.size=sz α
theorem elem_mk {α:Type}[Cells α]{P:Program}{t e:TypeId}{bytes:Nat}{z:Value}{n:Nat}(ht:P.underlying t=some (.slice e))(h:(P.info? e).map (fun i=>(i.zero,i.size,i.bytes))=some (some z,n,bytes))(hn:n=sz α)(hz:z.cells.size=sz α):ElemOf α P t e bytes:=by
 obtain⟨i,hi,h1,h2,h3⟩:=info_parts h
 exact⟨ht,i,z,hi,h1,by rw[h2,hn],h3,hz⟩
theorem RowAt.addr {α:Type}[Cells α]{w:World}{e:TypeId}{xs:List α}{ad:Option Addr}{n cap:Nat}(h:RowAt w e (.slice ad n cap) xs){i:Nat}{x:α}(hx:xs[i]? =some x):∃g off,ad=some ⟨g,off,none⟩∧g<w.heap.size:=by
 rcases h with⟨_,rfl⟩|⟨g,off,cap',_,hv,hg,_⟩
 ·simp at hx
 ·cases hv;exact⟨g,off,rfl,zlt hg⟩
theorem elem_at {α:Type}{l:List α}{k:Nat}(h:k<l.length):∃x,l[k]? =some x:=⟨l[k],by simp⟩
theorem run_slice_to {P:Program}{t e:TypeId}{i:TypeInfo}(ht:P.underlying t=some (.slice e))(hi:P.info? e=some i){ad:Option Addr}{k n cap:Nat}(hn:n≤cap)(W:World):
  (Instr.slice t (.slice ad k cap) none (some (.int .i64 n)) none).run P W= .ok (.slice ad n cap) W:=by
 have ha:ad.map (fun a=>a.add 0)=ad:=by cases ad<;>simp[Addr.add]
 simp[Instr.slice,run_underlying ht,Instr.sliceBounds,Instr.sliceBound,asIntOf,hn,sizeOf,typeInfo,hi,Result.andThen,ha]
theorem RowAt.pre {α:Type}[Cells α]{w:World}{e:TypeId}{xs:List α}{ad:Option Addr}{k cap:Nat}(h:RowAt w e (.slice ad k cap) xs){n:Nat}(hn:n≤xs.length):
  n≤cap∧RowAt w e (.slice ad n cap) (xs.take n):=by
 rcases h with⟨h,rfl⟩|⟨g',off',cap',cur,hv,hg,h1,h2,h3,hc⟩
 ·cases h
  simp at hn
  subst hn
  exact⟨Nat.le_refl _,.inl ⟨rfl,rfl⟩⟩
 ·cases hv
  have hl:(xs.take n).length=n:=by simp[hn]
  refine⟨by omega,.inr ⟨_,_,cap,cur,by rw[hl],hg,by omega,h2,h3,fun j u hu=>hc j u ?_⟩⟩
  have:xs.flatMap enc=(xs.take n).flatMap enc++(xs.drop n).flatMap enc:=by rw[←List.flatMap_append,List.take_append_drop]
  rw[this,List.getElem?_append_left (zge hu).1]
  exact hu
end Go.Own
namespace Go.Own
open Go.RowKit Go.Own.MapTy
def Ext (w:World):Type:={W:World//Below w.heap.size w W}
instance(w:World):Nonempty (Ext w):=⟨⟨w,Below.refl _ w⟩⟩
def ext {w:World}(e:Ext w):World:=e.1
@[go_sem] theorem ext_cell {w:World} (e:Ext w) (b o:Nat) (h:b<w.heap.size):(ext e).cell? ⟨b,o,none⟩=w.cell? ⟨b,o,none⟩:=e.2.cell (p:=⟨b,o,none⟩) h
@[go_sem] theorem ext_frozen {w:World} (e:Ext w) (b o:Nat) (h:b<w.heap.size):(ext e).frozen? ⟨b,o,none⟩=w.frozen? ⟨b,o,none⟩:=e.2.frozen (p:=⟨b,o,none⟩) h
@[go_sem] theorem ext_blk {w:World} (e:Ext w) (k:Nat) (h:k<w.heap.size):blk (ext e) k=blk w k:=e.2.block k h
@[go_sem] theorem ext_same {w w0:World} (e:Ext w) (k:Nat) (h:k<w.heap.size):Same w0 k (ext e)↔Same w0 k w:=by unfold Same;rw[ext_blk e k h]
theorem wp_region_ext {P:Program}{id:Nat}{Q:Exit→Act→World→Prop}{a:Act}{w:World}{l:List Oper}(hm:P.follows .mixedOrders=true)(hB:Region.lexB .any l.toArray=true)
  (h:wpQuiet P l.toArray (fun W=>∃e:Ext w,W=ext e) (fun a'=>∀W,Below w.heap.size w W→Q .normal a' W) l a):(Code.region id l.toArray true).wp P Q a w:=by
 have e1:(fun a'=>∀W,Below w.heap.size w W→Q .normal a' W)=(fun a'=>∀W,(∃e:Ext w,W=ext e)→Q .normal a' W):=by
  funext a'
  refine propext ⟨fun h W ⟨e,he⟩=>h W (he▸e.2),fun h W hW=>h W ⟨⟨W,hW⟩,rfl⟩⟩
 rw[e1]at h
 exact wp_region_quiet (C:=fun W=>∃e:Ext w,W=ext e) hm hB ⟨⟨{w with drawn:=w.drawn+1},(Below.refl _ w).drew⟩,rfl⟩ (by simpa using h)
theorem ext_call {P:Program}{f:FuncId}{args:Array Value}{w:World}{e:Ext w}{v:Value}(h:Calls P f args (ext e) fun en w'=>en= .returned v∧Below (ext e).heap.size (ext e) w'):
  Calls P f args (ext e) fun en w''=>en= .returned v∧∃e':Ext w,w''=ext e':=
 h.mono fun _ w' ⟨h1,h2⟩=>⟨h1,⟨w',e.2.trans (h2.mono e.2.size)⟩,rfl⟩
theorem ext_call_same {P:Program}{f:FuncId}{args:Array Value}{w:World}{e:Ext w}{v:Value}(h:Calls P f args (ext e) fun en w'=>en= .returned v∧ext e=w'):
  Calls P f args (ext e) fun en w''=>en= .returned v∧∃e':Ext w,w''=ext e':=
 h.mono fun _ _ ⟨h1,h2⟩=>⟨h1,e,h2.symm⟩
end Go.Own
