/- Parts of the proof: what the functions and the plain laws give that later parts lean on. Conditions: none beyond those that each theorem names. -/
import Derived.WalkKit
import Derived.WalkSpells
import Derived.WalkLawsBesides
import Derived.Lib.Hide
import Derived.Deep.QuietTactic
import Derived.BigQuiet
import Derived.StillTailTactics
import Derived.Deep.RegionHeld3
import Derived.Deep.RegionLaw
import Derived.Deep.RegionWith
import Derived.Deep.DeepCutAuto
import Derived.Deep.LoopGhost
import Derived.Deep.DeepFit
import Derived.Maps.Own
import Derived.Maps.OwnOps
import Derived.Maps.OwnSet
import Derived.DeepKeys4
import Derived.BigGuardPart
set_option maxRecDepth 100000
set_option maxHeartbeats 8000000
namespace Go.Own
open Go.RowKit
structure Keeps (S:Nat→Prop)(w w':World):Prop where
 os:w'.os=w.os
 tape:w'.tape=w.tape
 output:w'.output=w.output
 size:w.heap.size≤w'.heap.size
 block:∀k,k<w.heap.size→¬S k→w'.heap[k]? =w.heap[k]?
namespace Keeps
variable{S T:Nat→Prop} {w w' w'':World}
theorem refl (S:Nat→Prop)(w:World):Keeps S w w:=⟨rfl,rfl,rfl,Nat.le_refl _,fun _ _ _=>rfl⟩
theorem trans (h:Keeps S w w')(k:Keeps T w' w'')(hs:∀j,j<w.heap.size→T j→S j):Keeps S w w'':=
 ⟨k.os.trans h.os,k.tape.trans h.tape,k.output.trans h.output,Nat.le_trans h.size k.size,fun j hj hn=>
   (k.block j (Nat.lt_of_lt_of_le hj h.size) (fun t=>hn (hs j hj t))).trans (h.block j hj hn)⟩
theorem mono (h:Keeps S w w')(hs:∀j,j<w.heap.size→S j→T j):Keeps T w w':=
 ⟨h.os,h.tape,h.output,h.size,fun j hj hn=>h.block j hj (fun s=>hn (hs j hj s))⟩
theorem drew (h:Keeps S w w'):Keeps S w w'.drew:=⟨h.os,h.tape,h.output,h.size,h.block⟩
theorem alloc (h:Keeps S w w')(o:Obj):Keeps S w (w'.alloc o):=
 h.trans (T:=fun _=>False) ⟨rfl,rfl,rfl,by simp,fun k hk _=>Below.heap_alloc _ _ _ hk⟩ (fun _ _ f=>f.elim)
theorem setCell (h:Keeps S w w'){p:Addr}(hp:S p.block∨w.heap.size≤p.block)(u:Value):Keeps S w (w'.setCell p u):=
 h.trans (T:=fun j=>j=p.block) ⟨rfl,rfl,rfl,by simp[World.setCell],fun k _ hn=>Below.heap_setCell _ _ _ _ hn⟩
  (fun j hj e=>by subst e;rcases hp with hp|hp;exact hp;omega)
theorem of_below (h:Below w.heap.size w w'):Keeps S w w':=⟨h.os,h.tape,h.output,h.size,fun k hk _=>h.block k hk⟩
theorem of_grown {row:Option Nat}(h:w.grownBy w' row)(hs:∀k,row=some k→S k):Keeps S w w':=
 ⟨h.os,h.tape,h.output,h.size,fun k hk hn=>h.block k hk (fun e=>hn (hs k e.symm))⟩
theorem below (h:Keeps S w w'){B:Nat}(hB:B≤w.heap.size)(hs:∀k,k<B→¬S k):Below B w w':=
 ⟨h.os,h.tape,h.output,h.size,fun k hk=>h.block k (by omega) (hs k hk)⟩
theorem cell (h:Keeps S w w'){p:Addr}(hp:p.block<w.heap.size)(hn:¬S p.block):w'.cell? p=w.cell? p:=
 World.cell?_of_block (w:=w) (h.block p.block hp hn)
theorem frozen (h:Keeps S w w'){p:Addr}(hp:p.block<w.heap.size)(hn:¬S p.block):w'.frozen? p=w.frozen? p:=
 World.frozen?_of_block (w:=w) (h.block p.block hp hn)
theorem below_of (h:Keeps (fun _=>False) w w'):Below w.heap.size w w':=h.below (Nat.le_refl _) (fun _ _ f=>f)
theorem comp (h:Keeps S w w')(k:Keeps S w' w''):Keeps S w w'':=h.trans k (fun _ _ s=>s)
end Keeps
theorem ycU {w:World}{b:Nat}{o:Obj}(h:w.heap[b]? =some o):b<w.heap.size:=(Array.getElem?_eq_some_iff.1 h).1
theorem ybl {w:World}{b:Nat}{c:Array Value}{t:TypeId}{fr:Nat×Nat}(h:w.heap[b]? =some (.cells c t fr))(o:Nat):w.cell? ⟨b,o,none⟩=c[o]? :=by
 simp[World.cell?,h]
theorem ybM {w:World}{b:Nat}{c:Array Value}{t:TypeId}(h:w.heap[b]? =some (.cells c t (0,0)))(o:Nat):w.frozen? ⟨b,o,none⟩=false:=by
 simp[World.frozen?,h]
class Cells (α:Type) where
 sz:Nat
 enc:α→List Value
 len:∀x,(enc x).length=sz
 one:∀x,∀v∈enc x,v.oneCell'=true
open Cells (sz enc)
def RowAt {α:Type}[Cells α](w:World)(e:TypeId)(v:Value)(xs:List α):Prop:=
 (v= .slice none 0 0∧xs=[])∨
 ∃g off cap cur,v= .slice (some ⟨g,off,none⟩) xs.length cap∧w.heap[g]? =some (.cells cur e (0,0))∧xs.length≤cap∧cap≤maxLen∧off+cap*sz α≤cur.size∧
  ∀j u,(xs.flatMap enc)[j]? =some u→cur[off+j]? =some u
theorem ybe {α:Type}[Cells α](xs:List α):(xs.flatMap enc).length=xs.length*sz α:=by
 induction xs with
 |nil=>simp
 |cons x r ih=>simp[List.flatMap_cons,ih,Cells.len,Nat.add_mul,Nat.add_comm]
theorem ya4 {α:Type}[Cells α]:∀(xs:List α) (i j:Nat) (x:α),xs[i]? =some x→j<sz α→(xs.flatMap enc)[i*sz α+j]? =(enc x)[j]?
 |[],i,j,x,h,_=>by simp at h
 |y::r,0,j,x,h,hj=>by
  simp at h;subst h;simp only[List.flatMap_cons,Nat.zero_mul,Nat.zero_add];rw[List.getElem?_append_left (by rw[Cells.len];exact hj)]
 |y::r,i+1,j,x,h,hj=>by
  simp at h;simp only[List.flatMap_cons];rw[List.getElem?_append_right (by rw[Cells.len,Nat.add_mul];omega),Cells.len];have:(i+1)*sz α+j - sz α=i*sz α+j:=by rw[Nat.add_mul];omega
  rw[this];exact ya4 r i j x h hj
theorem yle {α:Type}[Cells α](xs:List α):∀u∈xs.flatMap enc,u.oneCell'=true:=by
 intro u hu;obtain⟨x,_,h⟩:=List.mem_flatMap.1 hu;exact Cells.one x u h
namespace RowAt
variable{α:Type} [Cells α] {w w':World} {e:TypeId} {v:Value} {xs:List α}
theorem nil (w:World)(e:TypeId):RowAt (α:=α) w e (.slice none 0 0) []:=.inl ⟨rfl,rfl⟩
theorem slice (h:RowAt w e v xs):∃a cap,v= .slice a xs.length cap:=by
 rcases h with⟨rfl,rfl⟩|⟨g,off,cap,cur,rfl,_⟩
 ·exact⟨none,0,rfl⟩
 ·exact⟨_,cap,rfl⟩
theorem length_le (h:RowAt w e v xs):xs.length≤maxLen:=by
 rcases h with⟨_,rfl⟩|⟨g,off,cap,cur,_,_,h1,h2,_⟩
 ·simp
 ·omega
theorem frame (h:RowAt w e v xs)(hb:∀g,v.ownBlock=some g→w'.heap[g]? =w.heap[g]?):RowAt w' e v xs:=by
 rcases h with h|⟨g,off,cap,cur,rfl,hg,h⟩
 ·exact .inl h
 ·exact .inr ⟨g,off,cap,cur,rfl,by rw[hb g rfl];exact hg,h⟩
theorem lt (h:RowAt w e v xs){g:Nat}(hg:v.ownBlock=some g):g<w.heap.size:=by
 rcases h with⟨rfl,_⟩|⟨g',off,cap,cur,rfl,hh,_⟩
 ·cases hg
 ·simp[Value.ownBlock]at hg;subst hg;exact ycU hh
theorem keep {S:Nat→Prop}(h:RowAt w e v xs)(hk:Keeps S w w')(hs:∀g,v.ownBlock=some g→¬S g):RowAt w' e v xs:=
 h.frame fun g hg=>hk.block g (h.lt hg) (hs g hg)
theorem cells {g off n cap:Nat}(h:RowAt w e (.slice (some ⟨g,off,none⟩) n cap) xs):
  ∀j u,(xs.flatMap enc)[j]? =some u→w.cell? ⟨g,off+j,none⟩=some u:=by
 rcases h with⟨h,_⟩|⟨g',off',cap',cur,hv,hg,_,_,_,hc⟩
 ·cases h
 ·cases hv
  intro j u hu;rw[ybl hg];exact hc j u hu
theorem cell {g off n cap:Nat}(h:RowAt w e (.slice (some ⟨g,off,none⟩) n cap) xs){i:Nat}{x:α}(hx:xs[i]? =some x){j:Nat}(hj:j<sz α):
  w.cell? ⟨g,off+(i*sz α+j),none⟩=(enc x)[j]? :=by
 have hu:(enc x)[j]? =some ((enc x)[j]'(by rw[Cells.len];exact hj)):=List.getElem?_eq_getElem _;rw[hu];exact h.cells _ _ (by rw[ya4 xs i j x hx hj];exact hu)
theorem frozen {g off n cap:Nat}(h:RowAt w e (.slice (some ⟨g,off,none⟩) n cap) xs)(o:Nat):w.frozen? ⟨g,o,none⟩=false:=by
 rcases h with⟨h,_⟩|⟨g',off',cap',cur,hv,hg,_⟩
 ·cases h
 ·cases hv
  exact ybM hg o
theorem cut {g off k cap:Nat}(h:RowAt w e (.slice (some ⟨g,off,none⟩) k cap) xs){n:Nat}(hn:n≤xs.length):
  RowAt w e (.slice (some ⟨g,off,none⟩) n n) (xs.take n):=by
 rcases h with⟨h,_⟩|⟨g',off',cap',cur,hv,hg,h1,h2,h3,hc⟩
 ·cases h
 ·cases hv
  have hl:(xs.take n).length=n:=by simp[hn]
  refine .inr ⟨_,_,n,cur,by rw[hl],hg,by omega,by omega,Nat.le_trans (Nat.add_le_add_left (Nat.mul_le_mul_right _ (by omega)) _) h3,fun j u hu=>hc j u ?_⟩;have:xs.flatMap enc=(xs.take n).flatMap enc++(xs.drop n).flatMap enc:=by rw[←List.flatMap_append,List.take_append_drop]
  rw[this,List.getElem?_append_left (List.getElem?_eq_some_iff.1 hu).1];exact hu
theorem from_ {g off k cap:Nat}(h:RowAt w e (.slice (some ⟨g,off,none⟩) k cap) xs){n:Nat}(hn:n≤xs.length)(hc:n<cap):
  RowAt w e (.slice (some ⟨g,off+n*sz α,none⟩) (xs.length - n) (cap - n)) (xs.drop n):=by
 rcases h with⟨h,_⟩|⟨g',off',cap',cur,hv,hg,h1,h2,h3,hcc⟩
 ·cases h
 ·cases hv
  refine .inr ⟨g,off+n*sz α,cap - n,cur,by simp,hg,by simp;omega,by omega,?_,fun j u hu=> ?_⟩
  ·have:(cap - n)*sz α=cap*sz α - n*sz α:=Nat.sub_mul _ _ _
   have:n*sz α≤cap*sz α:=Nat.mul_le_mul_right _ (by omega);omega
  ·have:xs.flatMap enc=(xs.take n).flatMap enc++(xs.drop n).flatMap enc:=by rw[←List.flatMap_append,List.take_append_drop]
   rw[Nat.add_assoc];refine hcc _ u ?_;have hl:((xs.take n).flatMap (enc (α:=α))).length=n*sz α:=by rw[ybe];simp[Nat.min_eq_left hn]
   rw[this,List.getElem?_append_right (by omega),hl];simpa using hu
end RowAt
theorem ybI (b:Nat):∀(l:List Value) (o:Nat) (w:World) (k:Nat),k≠b→(w.setCells b o l).heap[k]? =w.heap[k]?
 |[],_,_,_,_=>rfl
 |v::r,o,w,k,h=>by
  rw[World.setCells,ybI b r (o+1) _ k h];exact Below.heap_setCell _ _ _ _ h
theorem ybt (b:Nat)(t:TypeId)(fr:Nat×Nat):∀(l:List Value) (o:Nat) (w:World) (cur:Array Value),w.heap[b]? =some (.cells cur t fr)→
  ∃cur',(w.setCells b o l).heap[b]? =some (.cells cur' t fr)∧cur'.size=cur.size∧(∀j u,l[j]? =some u→o+j<cur.size→cur'[o+j]? =some u)∧(∀k,k<o∨o+l.length≤k→cur'[k]? =cur[k]?)
 |[],o,w,cur,h=>⟨cur,h,rfl,by simp,fun _ _=>rfl⟩
 |v::r,o,w,cur,h=>by
  have h1:(w.setCell ⟨b,o,none⟩ v).heap[b]? =some (.cells (cur.setIfInBounds o v) t fr):=by
   simp[World.setCell,Array.getElem?_modify,h]
  obtain⟨cur',h2,h3,h4,h5⟩:=ybt b t fr r (o+1) _ _ h1;refine⟨cur',h2,by rw[h3];simp,fun j u hu hj=> ?_,fun k hk=> ?_⟩
  ·cases j with
   |zero=>
    simp at hu;subst hu;rw[h5 _ (by omega)];simp at hj;simp[hj]
   |succ j=>
    have:=h4 j u (by simpa using hu) (by simp;omega);rw[←this]
    congr 1;omega
  ·rw[h5 k (by simp at hk;omega)]
   rw[Array.getElem?_setIfInBounds];simp at hk;rw[if_neg (by omega)]
theorem ybs (b:Nat):∀(l:List Value) (o:Nat) (w:World),(w.setCells b o l).heap.size=w.heap.size∧(w.setCells b o l).os=w.os∧(w.setCells b o l).tape=w.tape∧(w.setCells b o l).output=w.output
 |[],_,_=>⟨rfl,rfl,rfl,rfl⟩
 |v::r,o,w=>by
  obtain⟨h1,h2,h3,h4⟩:=ybs b r (o+1) (w.setCell ⟨b,o,none⟩ v);exact⟨by rw[World.setCells,h1];simp[World.setCell],h2,h3,h4⟩
theorem Keeps.setCells {S:Nat→Prop}{w w':World}(h:Keeps S w w'){b:Nat}(hb:S b∨w.heap.size≤b)(o:Nat)(l:List Value):Keeps S w (w'.setCells b o l):=by
 obtain⟨h1,h2,h3,h4⟩:=ybs b l o w';exact h.trans (T:=fun j=>j=b) ⟨h2,h3,h4,by rw[h1];exact Nat.le_refl _,fun k _ hn=>ybI b l o w' k hn⟩ (fun j hj e=>by subst e;rcases hb with hb|hb;exact hb;omega)
theorem RowAt.set {α:Type}[Cells α]{w:World}{e:TypeId}{xs:List α}{g off n cap:Nat}(h:RowAt w e (.slice (some ⟨g,off,none⟩) n cap) xs){i:Nat}(hi:i<xs.length)(y:α):
  RowAt (w.setCells g (off+i*sz α) (enc y)) e (.slice (some ⟨g,off,none⟩) n cap) (xs.set i y):=by
 rcases h with⟨h,_⟩|⟨g',off',cap',cur,hv,hg,h1,h2,h3,hc⟩
 ·cases h
 ·cases hv
  obtain⟨cur',k1,k2,k3,k4⟩:=ybt g e (0,0) (enc y) (off+i*sz α) w cur hg;have hb:off+(i*sz α+sz α)≤cur.size:=by
   have:(i+1)*sz α≤cap*sz α:=Nat.mul_le_mul_right _ (by omega);rw[Nat.add_mul]at this;omega
  refine .inr ⟨g,off,cap,cur',by simp,k1,by simpa using h1,h2,by rw[k2];exact h3,fun j u hu=> ?_⟩;have hjl:=(List.getElem?_eq_some_iff.1 hu).1;rw[ybe,List.length_set]at hjl;have hs:0<sz α:=by
   rcases Nat.eq_zero_or_pos (sz α)with h0|h0
   ·rw[h0]at hjl;simp at hjl
   ·exact h0
  have hd:=Nat.div_add_mod j (sz α);have hm:=Nat.mod_lt j hs;generalize hq:j/sz α=q at hd;generalize hr:j%sz α=r at hd hm;have hqn:q<xs.length:=by rw[←hq];exact Nat.div_lt_of_lt_mul (by rw[Nat.mul_comm];exact hjl)
  have hjq:j=q*sz α+r:=by rw[Nat.mul_comm];omega
  subst hjq;by_cases hqi:q=i
  ·subst hqi
   have hx:(xs.set q y)[q]? =some y:=by simp[hqn]
   rw[ya4 _ q r y hx hm]at hu;have:=k3 r u hu (by omega);rw[←this];congr 1;omega
  ·have hx:(xs.set i y)[q]? =some xs[q]:=by rw[List.getElem?_set_ne (fun e=>hqi e.symm)];simp
   rw[ya4 _ q r _ hx hm,←ya4 xs q r _ (by simp:xs[q]? =some xs[q]) hm]at hu;rw[k4 _ ?_]
   ·exact hc _ u hu
   ·rw[Cells.len]
    rcases Nat.lt_or_gt_of_ne hqi with hlt|hgt
    ·left
     have:(q+1)*sz α≤i*sz α:=Nat.mul_le_mul_right _ hlt;rw[Nat.add_mul]at this;omega
    ·right
     have:(i+1)*sz α≤q*sz α:=Nat.mul_le_mul_right _ hgt;rw[Nat.add_mul]at this;omega
section
variable{α:Type} [Cells α] {P:Program} {w:World}
theorem ycQ (t ty e:TypeId)(i:TypeInfo)(z:Value)(bytes:Nat)(ht:P.underlying t=some (.slice e))(hi:P.info? e=some i)(hz:i.zero=some z)
  (hsize:i.size=sz α)(hby:i.bytes=bytes)(hzs:z.cells.size=sz α)
  {v:Value}{xs:List α}(h:RowAt w e v xs)(ad:Addr)(m c:Nat)(ys:List α)(hm:ys.length=m)(hnews:∀j u,(ys.flatMap enc)[j]? =some u→w.cell? (ad.add j)=some u)
  (hbytes:(xs.length+m)*bytes≤140737488355328)(h63:xs.length+m≤maxLen):
  ∃v' w',(Builtin.append_ #[t,t] ty #[v,.slice (some ad) m c]).run P w= .ok v' w'∧RowAt w' e v' (xs++ys)∧w.grownBy w' v.ownBlock∧
   (∀g,v'.ownBlock=some g→v.ownBlock=some g∨(w.heap.size≤g∧g<w'.heap.size)):=by
 subst hm;have hsmall:xs.length+ys.length≤9223372036854775807:=by simp only[maxLen]at h63;omega
 have grown:∀(old:Nat),old<xs.length+ys.length→∀(row:Option Nat),
   RowAt (w.drew.alloc (.cells ((xs.flatMap enc).toArray++(ys.flatMap enc).toArray++Builtin.zeroCells z.cells (grownCap w (xs.length+ys.length) old e - (xs.length+ys.length))) e)) e
    (.slice (some ⟨w.heap.size,0,none⟩) (xs.length+ys.length) (grownCap w (xs.length+ys.length) old e)) (xs++ys)∧
   w.grownBy (w.drew.alloc (.cells ((xs.flatMap enc).toArray++(ys.flatMap enc).toArray++Builtin.zeroCells z.cells (grownCap w (xs.length+ys.length) old e - (xs.length+ys.length))) e)) row:=by
  intro old ho row;have hge:=grownCap_ge w (xs.length+ys.length) old e;have hcm:grownCap w (xs.length+ys.length) old e≤maxLen:=grownCap_le_maxLen w _ old e h63;refine⟨.inr ⟨w.heap.size,0,_,_,by simp,heap_alloc_new w.drew _,by simpa using hge,hcm,?_,?_⟩,⟨rfl,rfl,rfl,by simp,fun k hk _=>Below.heap_alloc w.drew _ k hk⟩⟩
  ·simp only[Array.size_append,List.size_toArray,size_zeroCells,hzs,ybe,←Nat.add_mul,Nat.zero_add]
   refine Nat.mul_le_mul_right _ ?_;omega
  ·intro j u hu
   rw[List.flatMap_append]at hu;have hlt:=(List.getElem?_eq_some_iff.1 hu).1;rw[Nat.zero_add,Array.getElem?_append_left (by simpa using hlt)];simpa using hu
 rcases h with⟨rfl,rfl⟩|⟨g,off,cap,cur,rfl,hg,hnc,hcm,hcs,hcells⟩
 ·by_cases hm:ys.length=0
  ·have hn:ys=[]:=List.eq_nil_of_length_eq_zero hm
   subst hn;refine⟨.slice none 0 0,w,?_,RowAt.nil w e,⟨rfl,rfl,rfl,Nat.le_refl _,fun _ _ _=>rfl⟩,by simp[Value.ownBlock]⟩;simp[Builtin.append_,run_underlying ht,sizeOf,typeInfo,hi,Builtin.lenOf,Builtin.firstCells,loadCells,loadCellsFrom]
  ·have hr:=run_append_nil (P:=P) w t ty e i z ht hi hz ad ys.length c (ys.flatMap enc) (by rw[ybe,hsize]) hnews (by omega) (by simp at hsmall;omega) (by have hb:=hbytes;simp only[List.length_nil,Nat.zero_add]at hb;rw[hby];omega)
   have hgr:=grown 0 (by simp;omega) (Value.ownBlock (.slice none 0 0));simp only[List.length_nil,List.nil_append,Array.empty_append,List.flatMap_nil,Nat.zero_add]at hgr;exact⟨_,_,hr,hgr.1,hgr.2,fun g hg=>.inr (by simp[Value.ownBlock]at hg;subst hg;simp)⟩
 ·have hl:(ys.flatMap (enc (α:=α))).length=ys.length*i.size:=by rw[ybe,hsize]
  have hlx:(xs.flatMap (enc (α:=α))).length=xs.length*i.size:=by rw[ybe,hsize]
  have hold:∀j u,(xs.flatMap enc)[j]? =some u→w.cell? ((⟨g,off,none⟩:Addr).add j)=some u:=by
   intro j u hu;rw[Addr.add_lit,ybl hg];exact hcells j u hu
  by_cases hroom:xs.length+ys.length≤cap
  ·have hfit:off+xs.length*sz α+ys.length*sz α≤cur.size:=by
    have:=Nat.mul_le_mul_right (sz α) hroom;rw[Nat.add_mul]at this;omega
   have hr:=run_append_room_cells (P:=P) w t ty e i ht hi g off xs.length cap ad ys.length c (ys.flatMap enc) hl hnews (yle ys) hroom
    (fun j hj=>by rw[ybl hg];simp;rw[hl]at hj;rw[hsize]at hj⊢;omega) (fun j _=>ybM hg _)
   obtain⟨cur',k1,k2,k3,k4⟩:=ybt g e (0,0) (ys.flatMap enc) (off+xs.length*i.size) w cur hg;obtain⟨s1,s2,s3,s4⟩:=ybs g (ys.flatMap enc) (off+xs.length*i.size) w;refine⟨_,_,hr,.inr ⟨g,off,cap,cur',by simp,k1,by simpa using hroom,hcm,by rw[k2];exact hcs,fun j u hu=> ?_⟩,
    ⟨s2,s3,s4,by rw[s1];exact Nat.le_refl _,fun k _ hk=>ybI g _ _ w k (fun e=>hk (by simp[Value.ownBlock,e]))⟩,fun g' hg'=>.inl (by simpa[Value.ownBlock]using hg')⟩
   rw[List.flatMap_append]at hu;by_cases hj:j<xs.length*sz α
   ·rw[List.getElem?_append_left (by rw[ybe];exact hj)]at hu
    rw[k4 _ (by left;rw[hsize];omega)];exact hcells j u hu
   ·rw[List.getElem?_append_right (by rw[ybe];omega),ybe]at hu
    have hlt:=(List.getElem?_eq_some_iff.1 hu).1;rw[ybe]at hlt;have:=k3 _ u hu (by rw[hsize];omega);rw[←this];congr 1;rw[hsize];omega
  ·have hr:=run_append_grow (P:=P) w t ty e i z ht hi hz ⟨g,off,none⟩ xs.length cap (xs.flatMap enc) hlx hold ad ys.length c (ys.flatMap enc) hl hnews (by omega) (by omega) (growslice_fits (by omega) (by rw[hby];exact hbytes))
   have hgr:=grown cap (by omega) (Value.ownBlock (.slice (some ⟨g,off,none⟩) xs.length cap));exact⟨_,_,hr,hgr.1,hgr.2,fun g' hg'=>.inr (by simp[Value.ownBlock]at hg';subst hg';simp)⟩
end
def blk (w:World)(k:Nat):Option Obj:=w.heap[k]?
@[go_sem] theorem yn0 (w:World) (k:Nat):blk w.drew k=blk w k:=rfl
@[go_sem] theorem ynw (w:World) (n k:Nat):blk (w.drewN n) k=blk w k:=rfl
@[go_sem] theorem yki (w:World) (o:Obj) (k:Nat) (h:k<w.heap.size):blk (w.alloc o) k=blk w k:=Below.heap_alloc w o k h
@[go_sem] theorem ygT (w:World) (b o:Nat) (v:Value) (k:Nat) (h:¬k=b):blk (w.setCell ⟨b,o,none⟩ v) k=blk w k:=Below.heap_setCell w _ v k h
open Go.Maps
structure MapTy (κ ν:Type) where
 ke:κ→Value
 ve:ν→Value
 inj:∀a b,ke a=ke b→a=b
namespace MapTy
variable{κ ν:Type} [DecidableEq κ]
def get:List (κ×ν)→κ→Option ν
 |[],_=>none
 |(a,b)::r,k=>if a=k then some b else get r k
def upd (m:List (κ×ν))(k:κ)(v:ν):List (κ×ν):=
 if(get m k).isSome then m.map (fun p=>if p.1=k then(k,v)else p)else m++[(k,v)]
theorem ylb {m:List (κ×ν)}{k:κ}:get m k=none↔∀p∈m,p.1≠k:=by
 induction m with
 |nil=>simp[get]
 |cons p r ih=>
  obtain⟨a,b⟩:=p;unfold get;by_cases h:a=k
  ·subst h;simp
  ·simp[h,ih]
theorem yky (m:List (κ×ν))(k:κ)(v:ν):(upd m k v).map (·.1)=if(get m k).isSome then m.map (·.1)else m.map (·.1)++[k]:=by
 unfold upd;split
 ·rw[List.map_map]
  refine List.map_congr_left fun p _=> ?_;simp only[Function.comp];split
  ·rename_i h;exact h.symm
  ·rfl
 ·simp
theorem upd_nodup {m:List (κ×ν)}(hn:(m.map (·.1)).Nodup)(k:κ)(v:ν):((upd m k v).map (·.1)).Nodup:=by
 rw[yky];split
 ·exact hn
 ·rename_i h
  have h':get m k=none:=by simpa using h
  rw[ylb]at h';refine List.nodup_append.2 ⟨hn,by simp,?_⟩;intro a ha b hb;simp at hb;subst hb;obtain⟨p,hp,rfl⟩:=List.mem_map.1 ha;exact h' p hp
theorem yiz (m:List (κ×ν))(k j:κ)(v:ν)(h:get m k=none):get (m++[(k,v)]) j=if j=k then some v else get m j:=by
 induction m with
 |nil=>simp[get,eq_comm]
 |cons p r ih=>
  obtain⟨a,b⟩:=p;unfold get at h;by_cases hk:a=k
  ·rw[if_pos hk]at h;cases h
  ·rw[if_neg hk]at h
   simp only[List.cons_append,get];by_cases hj:a=j
   ·subst hj;simp[hk]
   ·rw[if_neg hj,if_neg hj];exact ih h
theorem ymt (m:List (κ×ν))(k j:κ)(v:ν):get (m.map (fun p=>if p.1=k then(k,v)else p)) j=if j=k then(if(get m k).isSome then some v else none)else get m j:=by
 induction m with
 |nil=>simp[get]
 |cons p r ih=>
  obtain⟨a,b⟩:=p;simp only[List.map_cons];by_cases hk:a=k
  ·subst hk
   by_cases hj:j=a
   ·subst hj;simp[get]
   ·have hj':a≠j:=fun e=>hj e.symm
    simp only[if_true,get,hj',if_false,hj];rw[ih,if_neg hj]
  ·simp only[hk,if_false,get]
   by_cases hj:a=j
   ·subst hj;simp[hk]
   ·rw[if_neg hj,if_neg hj];exact ih
theorem yms (m:List (κ×ν))(k:κ)(v:ν)(j:κ):get (upd m k v) j=if j=k then some v else get m j:=by
 unfold upd;split
 ·rename_i h
  rw[ymt,h];simp
 ·rename_i h
  exact yiz m k j v (by simpa using h)
end MapTy
open MapTy
def ykq {κ ν:Type}[DecidableEq κ](x:κ):List (κ×ν)→Nat→Option (Nat×ν)
 |[],_=>none
 |(a,b)::r,i=>if a=x then some (i,b)else ykq x r (i+1)
theorem ydE {κ ν:Type}[DecidableEq κ]{x:κ}:∀{m:List (κ×ν)} {i:Nat},ykq x m i=none→MapTy.get m x=none
 |[],_,_=>rfl
 |(a,b)::r,i,h=>by
  unfold ykq at h;unfold MapTy.get;by_cases e:a=x
  ·rw[if_pos e]at h;cases h
  ·rw[if_neg e]at h⊢;exact ydE h
theorem ydD {κ ν:Type}[DecidableEq κ]{x:κ}:∀{m:List (κ×ν)} {i j:Nat} {v:ν},ykq x m i=some (j,v)→MapTy.get m x=some v∧i≤j∧m[j - i]? =some (x,v)
 |[],_,_,_,h=>by cases h
 |(a,b)::r,i,j,v,h=>by
  unfold ykq at h;unfold MapTy.get;by_cases e:a=x
  ·rw[if_pos e]at h⊢
   cases h;subst e;simp
  ·rw[if_neg e]at h⊢
   obtain⟨h1,h2,h3⟩:=ydD h;refine⟨h1,by omega,?_⟩;have:j - i=(j - (i+1))+1:=by omega
   rw[this];simpa using h3
structure KLaw {κ ν:Type}[DecidableEq κ](M:MapTy κ ν)(P:Program)(k:TypeId):Prop where
 check:∀(W:World) (em:Bool) (x:κ),(Instr.checkKey em 10000 k (M.ke x)).run P W= .ok () W
 find:∀(W:World) (x:κ) (m:List (κ×ν)) (es:List MapEntry),es.map (fun(y:MapEntry)=>(y.key,y.val))=m.map (fun p=>(M.ke p.1,M.ve p.2))→
  (Instr.findKey k (M.ke x) es).run P W= .ok ((ykq x m 0).map fun p=>(p.1,M.ve p.2)) W
 stays:∀(W:World) (x:κ),(Instr.keyThatStays (M.ke x) (M.ke x)).run P W= .ok (M.ke x) W
theorem KLaw.of_now {κ ν:Type}[DecidableEq κ]{M:MapTy κ ν}{P:Program}{k:TypeId}{d:TypeDesc}(hd:P.underlying k=some d)
  (check:∀(W:World) (em:Bool) (x:κ),(Instr.checkKey em 10000 k (M.ke x)).run P W= .ok () W)
  (now:∀x y,Instr.sameNow d (M.ke x) (M.ke y)=some (decide (x=y)))
  (bits:∀x,Instr.sameBits 10000 (M.ke x) (M.ke x)=true):KLaw M P k where
 check:=check
 find W x m es h:=by
  have ask:∀(es:List MapEntry) (m:List (κ×ν)) (i:Nat),es.map (fun(y:MapEntry)=>(y.key,y.val))=m.map (fun p=>(M.ke p.1,M.ve p.2))→
    Instr.findNow d (M.ke x) es i=some ((ykq x m i).map fun p=>(p.1,M.ve p.2)):=by
   intro es
   induction es with
   |nil=>
    intro m i h;cases m with
    |nil=>rfl
    |cons p r=>simp at h
   |cons y r ih=>
    intro m i h;cases m with
    |nil=>simp at h
    |cons p q=>
     obtain⟨a,b⟩:=p;simp only[List.map_cons,List.cons.injEq,Prod.mk.injEq]at h;obtain⟨⟨h1,h2⟩,h3⟩:=h;unfold ykq Instr.findNow;rw[h1,now];by_cases e:x=a
     ·simp[e,h2]
     ·have e':¬a=x:=fun h=>e h.symm
      simp only[decide_eq_false e,e',if_false];exact ih q (i+1) h3
  simp only[Instr.findKey,Sem.run_bind,run_underlying hd,Result.andThen_ok,ask _ _ 0 h];rfl
 stays W x:=by simp[Instr.keyThatStays,bits]
def MapAt {κ ν:Type}(M:MapTy κ ν)(w:World)(b:Nat)(m:List (κ×ν)):Prop:=
 ∃es clock,w.heap[b]? =some (.map es clock)∧es.toList.map (fun(y:MapEntry)=>(y.key,y.val))=m.map (fun p=>(M.ke p.1,M.ve p.2))∧(m.map (·.1)).Nodup
theorem yb4 (w:World)(a:Addr)(v:Value):(w.setCell a v).heap.size=w.heap.size:=by simp[World.setCell]
def setBlock (w:World)(b:Nat)(o:Obj):World:={w with heap:=w.heap.setIfInBounds b o}
theorem ybd (w:World)(b:Nat)(o:Obj)(j:Nat)(h:j≠b):(setBlock w b o).heap[j]? =w.heap[j]? :=by
 simp only[setBlock,Array.getElem?_setIfInBounds];rw[if_neg (fun e=>h e.symm)]
theorem ycC (w:World)(b:Nat)(o:Obj)(h:b<w.heap.size):(setBlock w b o).heap[b]? =some o:=by
 simp[setBlock,h]
theorem ycB (w:World)(b:Nat)(o:Obj):(setBlock w b o).heap.size=w.heap.size:=by simp[setBlock]
@[go_sem] theorem ylu (w:World) (b:Nat) (o:Obj) (c off:Nat) (h:¬c=b):(setBlock w b o).cell? ⟨c,off,none⟩=w.cell? ⟨c,off,none⟩:=
 World.cell?_of_block (w:=w) (ybd w b o c h)
@[go_sem] theorem yjP (w:World) (b:Nat) (o:Obj) (c off:Nat) (h:¬c=b):(setBlock w b o).frozen? ⟨c,off,none⟩=w.frozen? ⟨c,off,none⟩:=
 World.frozen?_of_block (w:=w) (ybd w b o c h)
@[go_sem] theorem ykF (w:World) (b:Nat) (o:Obj):(setBlock w b o).heap.size=w.heap.size:=ycB w b o
@[go_sem] theorem ylM (w:World) (b:Nat) (o:Obj) (k:Nat) (h:¬k=b):blk (setBlock w b o) k=blk w k:=ybd w b o k h
theorem Keeps.setBlock {S:Nat→Prop}{w w':World}(h:Keeps S w w'){b:Nat}(hb:S b∨w.heap.size≤b)(o:Obj):Keeps S w (setBlock w' b o):=
 h.trans (T:=fun j=>j=b) ⟨rfl,rfl,rfl,by rw[ycB];exact Nat.le_refl _,fun k _ hn=>ybd w' b o k hn⟩ (fun j hj e=>by subst e;rcases hb with hb|hb;exact hb;omega)
namespace MapAt
variable{κ ν:Type} [DecidableEq κ] {M:MapTy κ ν} {P:Program} {k e t:TypeId} {w w':World} {b:Nat} {m:List (κ×ν)}
omit [DecidableEq κ]in
theorem frame (h:MapAt M w b m)(hb:w'.heap[b]? =w.heap[b]?):MapAt M w' b m:=by
 obtain⟨es,clock,h1,h⟩:=h;exact⟨es,clock,by rw[hb];exact h1,h⟩
omit [DecidableEq κ]in
theorem lt (h:MapAt M w b m):b<w.heap.size:=by
 obtain⟨es,clock,h1,h⟩:=h;exact ycU h1
omit [DecidableEq κ]in
theorem nodup (h:MapAt M w b m):(m.map (·.1)).Nodup:=by
 obtain⟨_,_,_,_,h⟩:=h;exact h
omit [DecidableEq κ]in
theorem keep {S:Nat→Prop}(h:MapAt M w b m)(hk:Keeps S w w')(hs:¬S b):MapAt M w' b m:=h.frame (hk.block b h.lt hs)
theorem look (h:MapAt M w b m)(K:KLaw M P k)(ht:P.underlying t=some (.map k e)){z:Value}(hz:∀W,(zeroValue e).run P W= .ok z W)(x:κ)(c:Bool):
  ∀W:World,blk W b=blk w b→(Instr.lookup t (.map (some b)) (M.ke x) c).run P W= .ok (if c then .tuple #[((MapTy.get m x).map M.ve).getD z,.bool (MapTy.get m x).isSome]else((MapTy.get m x).map M.ve).getD z) W:=by
 intro W hW;obtain⟨es,clock,h1,h2,h3⟩:=h;have hb:W.heap[b]? =some (.map es clock):=hW.trans h1;have hr:=K.find W x m es.toList h2;cases hs:ykq x m 0 with
 |none=>
  rw[hs]at hr;have hl:=ydE hs;simp only[Option.map_none]at hr;simp[Instr.lookup,run_underlying ht,MapKept.run_getObj_map hb,K.check W _ x,hr,hz,Result.andThen,hl]
 |some p=>
  obtain⟨j,v⟩:=p;rw[hs]at hr;obtain⟨hl,_,_⟩:=ydD hs;simp only[Option.map_some]at hr;simp[Instr.lookup,run_underlying ht,MapKept.run_getObj_map hb,K.check W _ x,hr,Result.andThen,hl]
theorem store (h:MapAt M w b m)(K:KLaw M P k)(ht:P.underlying t=some (.map k e))(x:κ)(v:ν):
  ∃o,(∀W:World,blk W b=blk w b→(Instr.mapUpdate t (.map (some b)) (M.ke x) (M.ve v)).run P W= .ok () (setBlock W b o))∧
   ∀W:World,W.heap[b]? =some o→MapAt M W b (upd m x v):=by
 have hn:=h.nodup;obtain⟨es,clock,h1,h2,h3⟩:=h;have hr:=fun W=>K.find W x m es.toList h2;cases hs:ykq x m 0 with
 |none=>
  simp only[hs,Option.map_none]at hr;have hl:=ydE hs;refine⟨.map (es.push ⟨M.ke x,M.ve v,clock⟩) (clock+1),fun W hW=> ?_,fun W hW=>⟨_,_,hW,?_,MapTy.upd_nodup hn x v⟩⟩
  ·have hb:W.heap[b]? =some (.map es clock):=hW.trans h1
   simp[Instr.mapUpdate,run_underlying ht,MapKept.run_getObj_map hb,K.check W false x,hr,MapKept.run_setObj_map _ hb,Result.andThen,setBlock]
  ·simp[MapTy.upd,hl,h2]
 |some p=>
  obtain⟨j,v0⟩:=p;simp only[hs,Option.map_some]at hr;obtain⟨hl,_,hmj⟩:=ydD hs;rw[Nat.sub_zero]at hmj;have hse:∃e0:MapEntry,es.toList[j]? =some e0∧e0.key=M.ke x:=by
   have:(m.map (fun p=>(M.ke p.1,M.ve p.2)))[j]? =some (M.ke x,M.ve v0):=by simp[hmj]
   rw[←h2]at this;simp only[List.getElem?_map,Option.map_eq_some_iff]at this;obtain⟨e0,he,heq⟩:=this;exact⟨e0,he,congrArg Prod.fst heq⟩
  obtain⟨e0,hj,hk0⟩:=hse;have hje:es[j]? =some e0:=by simpa using hj
  refine⟨.map (es.modify j fun e'=>{e' with key:=M.ke x,val:=M.ve v}) clock,fun W hW=> ?_,fun W hW=>⟨_,_,hW,?_,MapTy.upd_nodup hn x v⟩⟩
  ·have hb:W.heap[b]? =some (.map es clock):=hW.trans h1
   simp[Instr.mapUpdate,run_underlying ht,MapKept.run_getObj_map hb,K.check W false x,hr,hje,hk0,K.stays W x,MapKept.run_setObj_map _ hb,Result.andThen,setBlock]
  ·have e1:MapTy.upd m x v=m.set j (x,v):=by
    unfold MapTy.upd;rw[hl];simp only[Option.isSome_some,if_true];refine List.ext_getElem? fun i=> ?_;rw[List.getElem?_map,List.getElem?_set];by_cases hij:j=i
    ·subst hij
     rw[hmj,if_pos rfl,if_pos (List.getElem?_eq_some_iff.1 hmj).1];simp
    ·rw[if_neg hij]
     cases hmi:m[i]? with
     |none=>rfl
     |some p=>
      simp only[Option.map_some];rw[if_neg];intro hp;apply hij;have a1:(m.map (·.1))[j]? =some x:=by simp[hmj]
      have a2:(m.map (·.1))[i]? =some x:=by simp[hmi,hp]
      exact(List.getElem?_inj (List.getElem?_eq_some_iff.1 a1).1 hn).1 (a1.trans a2.symm)
   rw[e1,List.map_set,←h2,Array.toList_modify,ChangeMaps.modify_eq_set _ _ _ _ hj,List.map_set]
end MapAt
theorem ycz {α:Type}[Cells α]{P:Program}{w:World}{ops:Array Oper}{rest:List Oper}{o:Oper}{a:Act}{Q:Exit→Act→World→Prop}
  (hg:o.guard=none)(s x:Operand)(t:TypeId)(hop:o.op=Op.call {callee:=Callee.builtin Builtin.append,args:=#[s,x],argTypes:=#[t,t]})
  (e:TypeId)(i:TypeInfo)(z:Value)(bytes:Nat)(ht:P.underlying t=some (.slice e))(hi:P.info? e=some i)(hz:i.zero=some z)
  (hsize:i.size=sz α)(hby:i.bytes=bytes)(hzs:z.cells.size=sz α)
  (v:Value)(xs:List α)(hs:a.eval s=v)(h:RowAt w e v xs)(ad:Addr)(m c:Nat)(ys:List α)(hx:a.eval x= .slice (some ad) m c)(hm:ys.length=m)(hnews:∀j u,(ys.flatMap enc)[j]? =some u→w.cell? (ad.add j)=some u)
  (hbytes:(xs.length+m)*bytes≤140737488355328)(h63:xs.length+m≤maxLen)
  (hK:∀v' w',RowAt w' e v' (xs++ys)→w.grownBy w' v.ownBlock→(∀g,v'.ownBlock=some g→v.ownBlock=some g∨(w.heap.size≤g∧g<w'.heap.size))→wpList P ops Q rest (a.put o.dst v') w'):
  wpList P ops Q (o::rest) a w:=
 wpList_plain hg fun _ hk=>by
  obtain⟨v',w',hr,h1,h2,h3⟩:=ycQ (P:=P) t o.type e i z bytes ht hi hz hsize hby hzs h ad m c ys hm hnews hbytes h63;unfold Oper.wp execOp;simp only[hop,resolve,invoke,builtin,Sem.run_bind,Sem.run_pure,Result.andThen_ok,List.map_toArray,List.map_cons,List.map_nil,hs,hx,hr];exact hk _ _ (hK v' w' h1 h2 h3)
end Go.Own
namespace Go.Own
open Go.RowKit
theorem _root_.zca {w:World}{g:Nat}{l:List Value}{t:TypeId}{f:Nat×Nat}(h:w.heap[g]? =some (.cells l.toArray t f))(k:Nat){u:Value}(e:l[k]? =some u):w.cell? ⟨g,k,none⟩=some u:=by rw[ybl h,List.getElem?_toArray];exact e
theorem _root_.zba {w w':World}{o:Obj}(h:w'=w.alloc o):Below w.heap.size w w':=by rw[h];exact(Below.refl _ _).alloc (Nat.le_refl _) _
theorem _root_.zha {w w':World}{o:Obj}(h:w'=w.alloc o):w'.heap[w.heap.size]? =some o:=by rw[h];exact heap_alloc_new _ _
theorem _root_.zal {w:World}{o:Obj}:Below w.heap.size w (w.alloc o):=(Below.refl _ _).alloc (Nat.le_refl _) _
theorem _root_.zlt {w:World}{b:Nat}{o:Obj}(h:w.heap[b]? =some o):b<w.heap.size:=ycU h
theorem _root_.zch {w:World}{b:Nat}{c:Array Value}{t:TypeId}{fr:Nat×Nat}(h:w.heap[b]? =some (.cells c t fr))(o:Nat):w.cell? ⟨b,o,none⟩=c[o]? :=ybl h o
theorem _root_.zfr {w:World}{b:Nat}{c:Array Value}{t:TypeId}(h:w.heap[b]? =some (.cells c t (0,0)))(o:Nat):w.frozen? ⟨b,o,none⟩=false:=ybM h o
theorem _root_.zkb {S:Nat→Prop}{w w':World}(h:Below w.heap.size w w'):Keeps S w w':=Keeps.of_below h
theorem _root_.zhd {p:Prop}(h:p):Hid p:=h
theorem _root_.zh2 {a b:Prop}(x:a)(y:b):Hid (a∧b):=⟨x,y⟩
theorem _root_.zh3 {a b c:Prop}(x:a)(y:b)(z:c):Hid (a∧b∧c):=⟨x,y,z⟩
theorem _root_.zh4 {a b c d:Prop}(x:a)(y:b)(z:c)(u:d):Hid (a∧b∧c∧d):=⟨x,y,z,u⟩
theorem _root_.zh5 {a b c d e:Prop}(x:a)(y:b)(z:c)(u:d)(v:e):Hid (a∧b∧c∧d∧e):=⟨x,y,z,u,v⟩
theorem _root_.zh6 {a b c d e f:Prop}(x:a)(y:b)(z:c)(u:d)(v:e)(w:f):Hid (a∧b∧c∧d∧e∧f):=⟨x,y,z,u,v,w⟩
theorem _root_.zh7 {a b c d e f g:Prop}(x:a)(y:b)(z:c)(u:d)(v:e)(w:f)(s:g):Hid (a∧b∧c∧d∧e∧f∧g):=⟨x,y,z,u,v,w,s⟩
theorem _root_.zh8 {a b c d e f g h:Prop}(x:a)(y:b)(z:c)(u:d)(v:e)(w:f)(s:g)(t:h):Hid (a∧b∧c∧d∧e∧f∧g∧h):=⟨x,y,z,u,v,w,s,t⟩
theorem _root_.zge {α:Type}{l:List α}{i:Nat}{a:α}(h:l[i]? =some a):∃q:i<l.length,l[i]=a:=List.getElem?_eq_some_iff.1 h
theorem _root_.zmg {α:Type}{l:List α}{i:Nat}{a:α}(h:l[i]? =some a):a∈l:=List.mem_of_getElem? h
theorem _root_.zai {a b:Prop}(x:a)(y:b):a∧b:=⟨x,y⟩
theorem _root_.Go.RowKit.Hid.o {p:Prop}(h:Hid p):p:=h.out
abbrev _root_.zna:=@beq_eq_false_iff_ne
abbrev _root_.znb:=@heap_alloc_new
abbrev _root_.znc:=@Nat.le_refl
abbrev _root_.znd:=@decide_eq_false
abbrev _root_.zne:=@Below.heap_alloc
abbrev _root_.znf:=@Nat.le_trans
abbrev _root_.zng:=@bodyPost_ret
abbrev _root_.zni:=@Array.getElem?_modify
abbrev _root_.znj:=@Nat.lt_of_lt_of_le
abbrev _root_.znk:=@List.length_append
abbrev _root_.znl:=@cond_false
abbrev _root_.znm:=@cond_true
abbrev _root_.znn:=@Below.heap_setCell
abbrev _root_.zno:=@decide_eq_true
abbrev _root_.znq:=@Nat.zero_le
abbrev _root_.znr:=@List.drop_eq_getElem_cons
abbrev _root_.zns:=@List.drop_eq_nil_of_le
abbrev _root_.znt:=@World.cell?_of_block
abbrev _root_.znu:=@World.frozen?_of_block
abbrev _root_.znv:=@Below.refl
abbrev _root_.znw:=@Below.trans
abbrev _root_.znx:=@of_decide_eq_true
abbrev _root_.zny:=@of_decide_eq_false
abbrev _root_.znz:=@decide_eq_false_iff_not
abbrev _root_.zma:=@List.getElem?_cons_zero
abbrev _root_.zmb:=@List.getElem?_cons_succ
abbrev _root_.zmc:=@List.getElem?_toArray
abbrev _root_.zmd:=@List.length_map
abbrev _root_.zme:=@List.mem_cons_of_mem
abbrev _root_.zmf:=@List.mem_cons_self
abbrev _root_.zmh:=@List.length_singleton
abbrev _root_.zmi:=@List.length_dropLast
abbrev _root_.zmj:=@List.take_of_length_le
abbrev _root_.zmk:=@IntWalk.i64_in
abbrev _root_.zml:=@ByteArray.toList_eq
abbrev _root_.zmm:=@Nat.add_assoc
abbrev _root_.zmn:=@Nat.le_of_lt
end Go.Own
namespace Go.Own
open Go.RowKit Go.Own.MapTy
def yei (w:World)(k:Nat)(W:World):Prop:=blk W k=blk w k
@[go_sem] theorem ymY (w:World) (k:Nat):yei w k w:=rfl
@[go_sem] theorem ymZ (w:World) (k:Nat) (W:World):yei w k W.drew↔yei w k W:=Iff.rfl
@[go_sem] theorem ymM (w:World) (k n:Nat) (W:World):yei w k (W.drewN n)↔yei w k W:=Iff.rfl
@[go_sem] theorem ymN (w:World) (k:Nat) (W:World) (o:Obj) (h:k<W.heap.size):yei w k (W.alloc o)↔yei w k W:=by unfold yei;rw[yki _ _ _ h]
@[go_sem] theorem ylz (w:World) (b o k:Nat) (v:Value) (W:World) (h:¬k=b):yei w k (W.setCell ⟨b,o,none⟩ v)↔yei w k W:=by unfold yei;rw[ygT _ _ _ _ _ h]
theorem Keeps.same {S:Nat→Prop}{w W W':World}(K:Keeps S W W'){k:Nat}(hk:k<W.heap.size)(hs:¬S k)(h:yei w k W):yei w k W':=(K.block k hk hs).trans h
theorem MapAt.lookS {κ ν:Type}[DecidableEq κ]{M:MapTy κ ν}{P:Program}{k e t:TypeId}{w:World}{b:Nat}{m:List (κ×ν)}(h:MapAt M w b m)(K:KLaw M P k)(ht:P.underlying t=some (.map k e)){z:Value}(hz:∀W,(zeroValue e).run P W= .ok z W)(x:κ)(c:Bool):
  ∀W:World,yei w b W→(Instr.lookup t (.map (some b)) (M.ke x) c).run P W= .ok (if c then .tuple #[((MapTy.get m x).map M.ve).getD z,.bool (MapTy.get m x).isSome]else((MapTy.get m x).map M.ve).getD z) W:=
 fun W hW=>h.look K ht hz x c W hW
theorem ycl {α:Type}[Cells α]{P:Program}{t e:TypeId}{i:TypeInfo}(ht:P.underlying t=some (.slice e))(hi:P.info? e=some i)(hsize:i.size=Cells.sz α){w:World}{g off n cap:Nat}{xs:List α}(h:RowAt w e (.slice (some ⟨g,off,none⟩) n cap) xs){k:Nat}(hk:k≤n):
  ∃off',(∀W:World,(Instr.slice t (.slice (some ⟨g,off,none⟩) n cap) (some (.int .i64 k)) none none).run P W= .ok (.slice (some ⟨g,off',none⟩) (n - k) (cap - k)) W)∧RowAt w e (.slice (some ⟨g,off',none⟩) (n - k) (cap - k)) (xs.drop k):=by
 have hcap:n=xs.length∧xs.length≤cap:=by
  rcases h with⟨h,_⟩|⟨g',off',cap',cur,hv,_,h1,_⟩
  ·cases h
  ·cases hv;exact⟨rfl,h1⟩
 obtain⟨rfl,hc⟩:=hcap;by_cases hk2:cap=k
 ·refine⟨off,fun W=> ?_,?_⟩
  ·simp[Instr.slice,run_underlying ht,Instr.sliceBounds,Instr.sliceBound,asIntOf,hk,sizeOf,typeInfo,hi,Result.andThen,hk2]
  ·have:xs.length=k:=by omega
   rw[List.drop_of_length_le (by omega)];have:=h.cut (n:=0) (by omega);rw[show xs.length - k=0 from by omega,show cap - k=0 from by omega];simpa using this
 ·refine⟨off+k*Cells.sz α,fun W=> ?_,h.from_ hk (by omega)⟩
  simp[Instr.slice,run_underlying ht,Instr.sliceBounds,Instr.sliceBound,asIntOf,hk,sizeOf,typeInfo,hi,Result.andThen,hk2,hsize,Addr.add_lit]
instance:Cells Int where
 sz:=1
 enc:=fun n=>[.int .i64 n]
 len:=fun _=>rfl
 one:=by intro x v hv;simp at hv;subst hv;rfl
theorem ycR {w:World}{e:TypeId}{xs:List Int}{g off n cap:Nat}(h:RowAt w e (.slice (some ⟨g,off,none⟩) n cap) xs){i:Nat}{x:Int}(hx:xs[i]? =some x):w.cell? ⟨g,off+i,none⟩=some (.int .i64 x):=by
 have:=h.cell hx (j:=0) (by decide);simpa[Cells.sz,Cells.enc]using this
theorem yhF:∀xs:List Int,xs.flatMap (Cells.enc (α:=Int))=xs.map (Value.int .i64)
 |[]=>rfl
 |x::r=>by
  rw[List.flatMap_cons,yhF r];rfl
theorem RowAt.made {α:Type}[Cells α]{w:World}{b:Nat}{e:TypeId}{cs:Array Value}{xs:List α}{n:Nat}(h:w.heap[b]? =some (.cells cs e (0,0)))(hc:cs.toList=xs.flatMap Cells.enc)(hn:n=xs.length)(hm:n≤maxLen):
  RowAt w e (.slice (some ⟨b,0,none⟩) n n) xs:=by
 subst hn;refine .inr ⟨b,0,xs.length,cs,rfl,h,znc _,hm,?_,fun j u hu=> ?_⟩
 ·have:=congrArg List.length hc
  rw[Go.Own.ybe]at this;simp at this;omega
 ·rw[←hc]at hu
  simpa using hu
instance:Cells Bool where
 sz:=1
 enc:=fun n=>[.bool n]
 len:=fun _=>rfl
 one:=by intro x v hv;simp at hv;subst hv;rfl
theorem ykK {w:World}{e:TypeId}{xs:List Bool}{g off n cap:Nat}(h:RowAt w e (.slice (some ⟨g,off,none⟩) n cap) xs){i:Nat}{x:Bool}(hx:xs[i]? =some x):w.cell? ⟨g,off+i,none⟩=some (.bool x):=by
 have:=h.cell hx (j:=0) (by decide);simpa[Cells.sz,Cells.enc]using this
theorem yfM:∀xs:List Bool,xs.flatMap (Cells.enc (α:=Bool))=xs.map Value.bool
 |[]=>rfl
 |x::r=>by
  rw[List.flatMap_cons,yfM r];rfl
theorem yen {P:Program}{t e:TypeId}{i:TypeInfo}(ht:P.underlying t=some (.slice e))(hi:P.info? e=some i)(hz:i.zero=some (.bool false))(hs:i.size=1)(hb:i.bytes=1)(n:Nat)(hn:n≤140737488355328):
  ∃cs:Array Value,(∀W:World,(Instr.makeSlice t (.int .i64 n) (.int .i64 n)).run P W= .ok (.slice (some ⟨W.heap.size,0,none⟩) n n) (W.alloc (.cells cs e)))∧cs.toList=(List.replicate n false).flatMap Cells.enc:=by
 refine⟨madeCells (Value.bool false).cells (n*i.size),fun W=> ?_,?_⟩
 ·have:=run_make (P:=P) W t e i (.bool false) ht hi hz .i64 .i64 n n (by omega) (by omega) (by rw[hb];omega) (by omega)
  simpa using this
 ·rw[yfM,hs]
  simp only[Nat.mul_one,Value.cells,List.map_replicate];exact toList_madeCells_one _ _
end Go.Own
namespace Go.Own
open Go.RowKit Go.Own.MapTy
open Cells (sz enc)
theorem yoq {W w1:World}(hb:Below W.heap.size W w1):(∀b o,b<W.heap.size→w1.cell? ⟨b,o,none⟩=W.cell? ⟨b,o,none⟩)∧(∀b o,b<W.heap.size→w1.frozen? ⟨b,o,none⟩=W.frozen? ⟨b,o,none⟩):=
 ⟨fun b o h=>hb.cell (p:=⟨b,o,none⟩) h,fun b o h=>hb.frozen (p:=⟨b,o,none⟩) h⟩
structure ElemOf (α:Type)[Cells α](P:Program)(t e:TypeId)(bytes:Nat):Prop where
 ht:P.underlying t=some (.slice e)
 hi:∃i z,P.info? e=some i∧i.zero=some z∧i.size=sz α∧i.bytes=bytes∧z.cells.size=sz α
theorem yb0 {α:Type}[Cells α]{P:Program}{t e:TypeId}{bytes:Nat}{z:Value}{n:Nat}(ht:P.underlying t=some (.slice e))(h:(P.info? e).map (fun i=>(i.zero,i.size,i.bytes))=some (some z,n,bytes))(hn:n=sz α)(hz:z.cells.size=sz α):ElemOf α P t e bytes:=by
 obtain⟨i,hi,h1,h2,h3⟩:=info_parts h;exact⟨ht,i,z,hi,h1,by rw[h2,hn],h3,hz⟩
theorem RowAt.addr {α:Type}[Cells α]{w:World}{e:TypeId}{xs:List α}{ad:Option Addr}{n cap:Nat}(h:RowAt w e (.slice ad n cap) xs){i:Nat}{x:α}(hx:xs[i]? =some x):∃g off,ad=some ⟨g,off,none⟩∧g<w.heap.size:=by
 rcases h with⟨_,rfl⟩|⟨g,off,cap',_,hv,hg,_⟩
 ·simp at hx
 ·cases hv;exact⟨g,off,rfl,zlt hg⟩
theorem yad {α:Type}{l:List α}{k:Nat}(h:k<l.length):∃x,l[k]? =some x:=⟨l[k],by simp⟩
theorem yfo {P:Program}{t e:TypeId}{i:TypeInfo}(ht:P.underlying t=some (.slice e))(hi:P.info? e=some i){ad:Option Addr}{k n cap:Nat}(hn:n≤cap)(W:World):
  (Instr.slice t (.slice ad k cap) none (some (.int .i64 n)) none).run P W= .ok (.slice ad n cap) W:=by
 have ha:ad.map (fun a=>a.add 0)=ad:=by cases ad<;>simp[Addr.add]
 simp[Instr.slice,run_underlying ht,Instr.sliceBounds,Instr.sliceBound,asIntOf,hn,sizeOf,typeInfo,hi,Result.andThen,ha]
theorem RowAt.pre {α:Type}[Cells α]{w:World}{e:TypeId}{xs:List α}{ad:Option Addr}{k cap:Nat}(h:RowAt w e (.slice ad k cap) xs){n:Nat}(hn:n≤xs.length):
  n≤cap∧RowAt w e (.slice ad n cap) (xs.take n):=by
 rcases h with⟨h,rfl⟩|⟨g',off',cap',cur,hv,hg,h1,h2,h3,hc⟩
 ·cases h
  simp at hn;subst hn;exact⟨znc _,.inl ⟨rfl,rfl⟩⟩
 ·cases hv
  have hl:(xs.take n).length=n:=by simp[hn]
  refine⟨by omega,.inr ⟨_,_,cap,cur,by rw[hl],hg,by omega,h2,h3,fun j u hu=>hc j u ?_⟩⟩;have:xs.flatMap enc=(xs.take n).flatMap enc++(xs.drop n).flatMap enc:=by rw[←List.flatMap_append,List.take_append_drop]
  rw[this,List.getElem?_append_left (zge hu).1];exact hu
end Go.Own
namespace Go.Own
open Go.RowKit Go.Own.MapTy
def Ext (w:World):Type:={W:World//Below w.heap.size w W}
instance(w:World):Nonempty (Ext w):=⟨⟨w,znv _ w⟩⟩
def ext {w:World}(e:Ext w):World:=e.1
@[go_sem] theorem ynW {w:World} (e:Ext w) (b o:Nat) (h:b<w.heap.size):(ext e).cell? ⟨b,o,none⟩=w.cell? ⟨b,o,none⟩:=e.2.cell (p:=⟨b,o,none⟩) h
@[go_sem] theorem ymO {w:World} (e:Ext w) (b o:Nat) (h:b<w.heap.size):(ext e).frozen? ⟨b,o,none⟩=w.frozen? ⟨b,o,none⟩:=e.2.frozen (p:=⟨b,o,none⟩) h
@[go_sem] theorem ymw {w:World} (e:Ext w) (k:Nat) (h:k<w.heap.size):blk (ext e) k=blk w k:=e.2.block k h
@[go_sem] theorem ynV {w w0:World} (e:Ext w) (k:Nat) (h:k<w.heap.size):yei w0 k (ext e)↔yei w0 k w:=by unfold yei;rw[ymw e k h]
theorem yaC {P:Program}{id:Nat}{Q:Exit→Act→World→Prop}{a:Act}{w:World}{l:List Oper}(hm:P.follows .mixedOrders=true)(hB:Region.lexB .any l.toArray=true)
  (h:wpQuiet P l.toArray (fun W=>∃e:Ext w,W=ext e) (fun a'=>∀W,Below w.heap.size w W→Q .normal a' W) l a):(Code.region id l.toArray true).wp P Q a w:=by
 have e1:(fun a'=>∀W,Below w.heap.size w W→Q .normal a' W)=(fun a'=>∀W,(∃e:Ext w,W=ext e)→Q .normal a' W):=by
  funext a'
  refine propext ⟨fun h W ⟨e,he⟩=>h W (he▸e.2),fun h W hW=>h W ⟨⟨W,hW⟩,rfl⟩⟩
 rw[e1]at h;exact wp_region_quiet (C:=fun W=>∃e:Ext w,W=ext e) hm hB ⟨⟨{w with drawn:=w.drawn+1},(znv _ w).drew⟩,rfl⟩ (by simpa using h)
theorem ydq {P:Program}{f:FuncId}{args:Array Value}{w:World}{e:Ext w}{v:Value}(h:Calls P f args (ext e) fun en w'=>en= .returned v∧Below (ext e).heap.size (ext e) w'):
  Calls P f args (ext e) fun en w''=>en= .returned v∧∃e':Ext w,w''=ext e':=
 h.mono fun _ w' ⟨h1,h2⟩=>⟨h1,⟨w',e.2.trans (h2.mono e.2.size)⟩,rfl⟩
theorem yfa {P:Program}{f:FuncId}{args:Array Value}{w:World}{e:Ext w}{v:Value}(h:Calls P f args (ext e) fun en w'=>en= .returned v∧ext e=w'):
  Calls P f args (ext e) fun en w''=>en= .returned v∧∃e':Ext w,w''=ext e':=
 h.mono fun _ _ ⟨h1,h2⟩=>⟨h1,e,h2.symm⟩
end Go.Own
namespace Go.Own
open Go.RowKit Go.Own.MapTy
open Cells (sz enc)
theorem RowAt.slice_mk {α:Type}[Cells α]{w:World}{e:TypeId}{xs:List α}{g off cap:Nat}{cur:Array Value}(hg:w.heap[g]? =some (.cells cur e (0,0)))(h:xs.length≤cap∧cap≤maxLen∧off+cap*sz α≤cur.size∧∀j u,(xs.flatMap enc)[j]? =some u→cur[off+j]? =some u):
 RowAt w e (.slice (some ⟨g,off,none⟩) xs.length cap) xs:=.inr ⟨g,off,cap,cur,rfl,hg,h⟩
theorem RowAt.alloc {α:Type}[Cells α]{w:World}{e:TypeId}{v:Value}{xs:List α}(h:RowAt w e v xs)(o:Obj):RowAt (w.alloc o) e v xs:=h.frame fun _ hg=>zne _ _ _ (h.lt hg)
theorem RowAt.drew {α:Type}[Cells α]{w:World}{e:TypeId}{v:Value}{xs:List α}(h:RowAt w e v xs):RowAt w.drew e v xs:=h.frame fun _ _=>rfl
theorem RowAt.below {α:Type}[Cells α]{w w':World}{e:TypeId}{v:Value}{xs:List α}(h:RowAt w e v xs)(K:Below w.heap.size w w'):RowAt w' e v xs:=h.keep (zkb K) (fun _ _ f=>f)
theorem yar {w:World}{X Y:Obj}:((w.alloc X).alloc Y).heap[w.heap.size+1]? =some Y:=by
 rw[show w.heap.size+1=(w.alloc X).heap.size by simp];exact znb _ _
theorem yaE {w:World}{X Y:Obj}:((w.alloc X).alloc Y).heap[w.heap.size]? =some X:=(zne _ _ _ (by simp)).trans (znb _ _)
theorem yct {b o n m B:Nat}(h:B≤b):∀g,(Value.slice (some ⟨b,o,none⟩) n m).ownBlock=some g→B≤g:=by
 intro g hg;simp[Value.ownBlock]at hg;omega
theorem ybm {w W w1:World}{v v':Value}(K:Keeps (fun _=>False) w W)(hk:Keeps (fun j=>v.ownBlock=some j) W w1)(hv:∀g,v.ownBlock=some g→w.heap.size≤g)(hf:∀g,v'.ownBlock=some g→v.ownBlock=some g∨W.heap.size≤g):
  Keeps (fun _=>False) w w1∧∀g,v'.ownBlock=some g→w.heap.size≤g:=by
 refine⟨K.trans hk (fun j hj e=>by have:=hv j e;omega),fun g hg=> ?_⟩;rcases hf g hg with h|h
 ·exact hv g h
 ·exact znf K.size h
theorem ybR {α:Type}[Cells α]{P:Program}{t e:TypeId}{bytes:Nat}(E:ElemOf α P t e bytes){W:World}{ops:Array Oper}{rest:List Oper}{o:Oper}{a:Act}{Q:Exit→Act→World→Prop}
  (hg:o.guard=none)(s x:Operand)(hop:o.op=Op.call {callee:=Callee.builtin Builtin.append,args:=#[s,x],argTypes:=#[t,t]})
  {v:Value}{xs:List α}(h:RowAt W e v xs)(y:α)(hs:a.eval s=v){b:Nat}(hx:a.eval x= .slice (some ⟨b,0,none⟩) 1 1){fr:Nat×Nat}(hW:W.heap[b]? =some (.cells (enc y).toArray e fr))
  (hl:(xs.length+1)*bytes≤140737488355328)(h63:xs.length+1≤maxLen)
  (hK:∀a1 q1 w1,RowAt w1 e (.slice a1 (xs.length+1) q1) (xs++[y])→Keeps (fun j=>v.ownBlock=some j) W w1→(∀g,(Value.slice a1 (xs.length+1) q1).ownBlock=some g→v.ownBlock=some g∨W.heap.size≤g)→wpList P ops Q rest (a.put o.dst (.slice a1 (xs.length+1) q1)) w1):
  wpList P ops Q (o::rest) a W:=by
 obtain⟨i,z,hi,h1,h2,h3,h4⟩:=E.hi;refine ycz hg s x t hop e i z bytes E.ht hi h1 h2 h3 h4 v xs hs h ⟨b,0,none⟩ 1 1 [y] hx rfl ?_ hl h63 ?_
 ·intro j u hu
  rw[Addr.add_lit,zch hW,Nat.zero_add];simp at hu⊢;exact hu
 ·intro v1 w1 hr hg1 hf1
  obtain⟨a1,q1,rfl⟩:=hr.slice;rw[znk,zmh]at*;exact hK a1 q1 w1 hr (Keeps.of_grown hg1 (fun k h=>h)) (fun g h=>(hf1 g h).imp id (fun h=>h.1))
theorem ykI {α:Type}[Cells α]{P:Program}{t e:TypeId}{bytes:Nat}(E:ElemOf α P t e bytes){W:World}{v u:Value}{xs ys:List α}(h:RowAt W e v xs)(hu:RowAt W e u ys)
  (hl:(xs.length+ys.length)*bytes≤140737488355328)(h63:xs.length+ys.length≤maxLen)(ty:TypeId):
  ∃a1 q1 w1,(Builtin.append_ #[t,t] ty #[v,u]).run P W= .ok (.slice a1 (xs.length+ys.length) q1) w1∧RowAt w1 e (.slice a1 (xs.length+ys.length) q1) (xs++ys)∧Keeps (fun j=>v.ownBlock=some j) W w1∧
   ∀g,(Value.slice a1 (xs.length+ys.length) q1).ownBlock=some g→v.ownBlock=some g∨W.heap.size≤g:=by
 obtain⟨i,z,hi,h1,h2,h3,h4⟩:=E.hi;rcases hu with⟨rfl,rfl⟩|⟨g,off,cap,cur,rfl,hh,hc,hm,hsz,hcs⟩
 ·have hr:(Builtin.append_ #[t,t] ty #[v,.slice none 0 0]).run P W= .ok v W:=by
   rcases h with⟨rfl,rfl⟩|⟨g,off,cap,cur,rfl,hh,hc,_⟩
   ·simp[Builtin.append_,run_underlying E.ht,sizeOf,typeInfo,hi,Builtin.lenOf,Builtin.firstCells]
   ·simp[Builtin.append_,run_underlying E.ht,sizeOf,typeInfo,hi,Builtin.lenOf,Builtin.firstCells,loadCells,hc,storeCells,Addr.add_lit]
  obtain⟨va,vc,rfl⟩:=h.slice;exact⟨va,vc,W,hr,by simpa using h,Keeps.refl _ _,fun g hg=>.inl hg⟩
 ·obtain⟨v1,w1,hr,hr1,hg1,hf1⟩:=ycQ (P:=P) t ty e i z bytes E.ht hi h1 h2 h3 h4 h ⟨g,off,none⟩ ys.length cap ys rfl (fun j u hu=>by rw[Addr.add_lit,zch hh];exact hcs j u hu) hl h63
  obtain⟨a1,q1,rfl⟩:=hr1.slice;rw[znk]at*;exact⟨a1,q1,w1,hr,hr1,Keeps.of_grown hg1 (fun k h=>h),fun g h=>(hf1 g h).imp id (fun h=>h.1)⟩
theorem yaA {α:Type}[Cells α]{P:Program}{t e:TypeId}{bytes:Nat}(E:ElemOf α P t e bytes){W:World}{ops:Array Oper}{o:Oper}{a:Act}{K:Act→World→Prop}{Q:Exit→Act→World→Prop}{N:Prop}
  (hg:o.guard=none)(s x:Operand)(hop:o.op=Op.call {callee:=Callee.builtin Builtin.append,args:=#[s,x],argTypes:=#[t,t]})
  {v u:Value}(hs:a.eval s=v)(hx:a.eval x=u){xs ys:List α}(h:RowAt W e v xs)(hu:RowAt W e u ys)
  (hl:(xs.length+ys.length)*bytes≤140737488355328)(h63:xs.length+ys.length≤maxLen)
  (n:Nat)(hn:xs.length+ys.length=n)
  (hK:∀a1 q1 w1,RowAt w1 e (.slice a1 n q1) (xs++ys)→Keeps (fun j=>v.ownBlock=some j) W w1→(∀g,(Value.slice a1 n q1).ownBlock=some g→v.ownBlock=some g∨W.heap.size≤g)→K (a.put o.dst (.slice a1 n q1)) w1):
  if Region.wanted o (yielded ops a.tmps)=true then Oper.wp P o a W K Q else N:=by
 subst hn;have hw:Region.wanted o (yielded ops a.tmps)=true:=by simp[Region.wanted,hg]
 rw[if_pos hw];obtain⟨a1,q1,w1,hr,hr1,hk1,hf1⟩:=ykI E h hu hl h63 o.type;unfold Oper.wp execOp;simp only[hop,resolve,invoke,builtin,Sem.run_bind,Sem.run_pure,Result.andThen_ok,List.map_toArray,List.map_cons,List.map_nil,hs,hx,hr];exact hK a1 q1 w1 hr1 hk1 hf1
theorem RowAt.lit {α:Type}[Cells α]{W:World}{b:Nat}{e:TypeId}{y:α}(h:W.heap[b]? =some (.cells (enc y).toArray e (0,0))):RowAt W e (.slice (some ⟨b,0,none⟩) 1 1) [y]:=
 RowAt.made h (by simp) rfl (by unfold maxLen;omega)
theorem RowAt.none_ {α:Type}[Cells α]{W:World}{b:Nat}{e:TypeId}(h:W.heap[b]? =some (.cells #[] e (0,0))):RowAt (α:=α) W e (.slice (some ⟨b,0,none⟩) 0 0) []:=
 RowAt.made h (by simp) rfl (by unfold maxLen;omega)
theorem yj7 {α:Type}[Cells α]{P:Program}{t e:TypeId}{bytes:Nat}(E:ElemOf α P t e bytes){w:World}{ad:Option Addr}{n cap:Nat}{xs:List α}(h:RowAt w e (.slice ad n cap) xs){k:Nat}(hk:k≤xs.length):
  (∀W:World,(Instr.slice t (.slice ad n cap) none (some (.int .i64 k)) none).run P W= .ok (.slice ad k cap) W)∧RowAt w e (.slice ad k cap) (xs.take k):=by
 obtain⟨i,z,hi,h1,h2,h3,h4⟩:=E.hi;obtain⟨a,b⟩:=h.pre hk;exact⟨fun W=>yfo E.ht hi a W,b⟩
theorem yfd {α:Type}[Cells α]{P:Program}{t e:TypeId}{bytes:Nat}(E:ElemOf α P t e bytes){w:World}{ad:Option Addr}{n cap:Nat}{xs:List α}(h:RowAt w e (.slice ad n cap) xs){k:Nat}(hk:k≤xs.length):
  ∃ad',(∀W:World,(Instr.slice t (.slice ad n cap) (some (.int .i64 k)) none none).run P W= .ok (.slice ad' (n - k) (cap - k)) W)∧RowAt w e (.slice ad' (n - k) (cap - k)) (xs.drop k):=by
 obtain⟨i,z,hi,h1,h2,h3,h4⟩:=E.hi;cases ad with
 |none=>
  rcases h with⟨h,rfl⟩|⟨g,off,c,cur,h,_⟩
  ·cases h
   simp at hk;subst hk;exact⟨none,fun W=>by simp[Instr.slice,run_underlying E.ht,Instr.sliceBounds,Instr.sliceBound,asIntOf,sizeOf,typeInfo,hi,Result.andThen],.inl ⟨rfl,rfl⟩⟩
  ·cases h
 |some ad=>
  rcases h with⟨h,_⟩|⟨g,off,c,cur,h,hh,hl⟩
  ·cases h
  ·cases h
   obtain⟨off',h5,h6⟩:=ycl E.ht hi h2 (RowAt.slice_mk hh hl) hk;exact⟨_,h5,h6⟩
theorem RowAt.setOne {α:Type}[Cells α]{w:World}{e:TypeId}{xs:List α}{g off n cap:Nat}(h:RowAt w e (.slice (some ⟨g,off,none⟩) n cap) xs){i:Nat}{x y:α}(hx:xs[i]? =some x){j:Nat}{u:Value}(hj:j<sz α)(hy:enc y=(enc x).set j u):
  RowAt (w.setCell ⟨g,off+(i*sz α+j),none⟩ u) e (.slice (some ⟨g,off,none⟩) n cap) (xs.set i y):=by
 have hi:=(zge hx).1;rcases h with⟨h,_⟩|⟨g',off',cap',cur,hv,hg,h1,h2,h3,hc⟩
 ·cases h
 ·cases hv
  have hb:off+(i*sz α+sz α)≤cur.size:=by
   have:(i+1)*sz α≤cap*sz α:=Nat.mul_le_mul_right _ (by omega);rw[Nat.add_mul]at this;omega
  refine .inr ⟨g,off,cap,cur.setIfInBounds (off+(i*sz α+j)) u,by simp,by simp[World.setCell,zni,hg],by simpa using h1,h2,by simpa using h3,fun m v hm=> ?_⟩;have hml:=(zge hm).1;rw[Go.Own.ybe,List.length_set]at hml;have hs:0<sz α:=by omega
  have hd:=Nat.div_add_mod m (sz α);have hmm:=Nat.mod_lt m hs;generalize hq:m/sz α=q at hd;generalize hr:m%sz α=r at hd hmm;have hqn:q<xs.length:=by rw[←hq];exact Nat.div_lt_of_lt_mul (by rw[Nat.mul_comm];exact hml)
  have hjq:m=q*sz α+r:=by rw[Nat.mul_comm];omega
  subst hjq;by_cases hqi:q=i
  ·subst hqi
   rw[ya4 _ q r y (by simp[hqn]) hmm,hy]at hm;by_cases hrj:r=j
   ·subst hrj
    rw[List.getElem?_set_self (by rw[Cells.len];exact hmm)]at hm;cases hm;rw[Array.getElem?_setIfInBounds_self_of_lt (by omega)]
   ·rw[List.getElem?_set_ne (fun e=>hrj e.symm)]at hm
    rw[Array.getElem?_setIfInBounds_ne (by omega)];exact hc _ v (by rw[ya4 _ q r x hx hmm];exact hm)
  ·rw[ya4 _ q r xs[q] (by rw[List.getElem?_set_ne (fun e=>hqi e.symm)];simp[hqn]) hmm]at hm
   rw[Array.getElem?_setIfInBounds_ne ?_]
   ·exact hc _ v (by rw[ya4 _ q r xs[q] (by simp[hqn]) hmm];exact hm)
   ·intro he
    rcases Nat.lt_or_gt_of_ne hqi with hlt|hgt
    ·have:(q+1)*sz α≤i*sz α:=Nat.mul_le_mul_right _ hlt
     rw[Nat.add_mul]at this;omega
    ·have:(i+1)*sz α≤q*sz α:=Nat.mul_le_mul_right _ hgt
     rw[Nat.add_mul]at this;omega
def IM (ν:Type)(ve:ν→Value):MapTy Int ν:=⟨fun n=>.int .i64 n,ve,fun a b h=>by simpa using h⟩
theorem IM.klaw {ν:Type}{ve:ν→Value}{P:Program}{k:TypeId}(hd:P.underlying k=some (.int .i64))
  (check:∀(W:World) (em:Bool) (x:Int),(Instr.checkKey em 10000 k (.int .i64 x)).run P W= .ok () W):KLaw (IM ν ve) P k:=
 KLaw.of_now hd check (fun x y=>by simp[IM,Instr.sameNow];rfl) (fun x=>by simp[IM,Instr.sameBits])
end Go.Own
namespace Go.Va
open Go.Own Go.RowKit
inductive Val where
 |mk (kind n:Int) (s:ByteArray) (l:List Val)
namespace Val
def kind:Val→Int|mk k _ _ _=>k
def num:Val→Int|mk _ n _ _=>n
def txt:Val→ByteArray|mk _ _ s _=>s
def list:Val→List Val|mk _ _ _ l=>l
end Val
def Val.parts:Val→Nat
 | .mk _ _ _ l=>1+partsL l
where partsL:List Val→Nat
 |[]=>0
 |x::r=>x.parts+partsL r
theorem Val.parts_pos (v:Val):0<v.parts:=by cases v;unfold Val.parts;omega
theorem Val.partsL_mem {x:Val}:∀{l:List Val},x∈l→x.parts≤Val.parts.partsL l
 |[],h=>by cases h
 |y::r,h=>by
  unfold Val.parts.partsL;rcases List.mem_cons.1 h with rfl|h
  ·omega
  ·have:=partsL_mem h;omega
theorem Val.parts_lt {v x:Val}(h:x∈v.list):x.parts<v.parts:=by
 cases v with
 |mk k n s l=>
  have:=Val.partsL_mem (show x∈l from h);have e:(Val.mk k n s l).parts=1+Val.parts.partsL l:=by rw[Val.parts]
  omega
structure VC where
 kind:Int
 n:Int
 s:ByteArray
 la:Option Addr
 ln:Nat
 lc:Nat
def ymV (c:VC):List Value:=[.int .i64 c.kind,.int .i64 c.n,.string c.s,.slice c.la c.ln c.lc]
instance:Cells VC where
 sz:=4
 enc:=ymV
 len:=fun _=>rfl
 one:=by
  intro x v hv;simp[ymV]at hv;rcases hv with rfl|rfl|rfl|rfl<;>rfl
open Cells (sz enc)
def Rd {α:Type}[Cells α](w:World)(v:Value)(xs:List α):Prop:=
 ∃a cap,v= .slice a xs.length cap∧xs.length≤cap∧cap≤maxLen∧∀i x,xs[i]? =some x→∃g off,a=some ⟨g,off,none⟩∧g<w.heap.size∧∀j u,(enc x)[j]? =some u→w.cell? ⟨g,off+(i*sz α+j),none⟩=some u
inductive VAt (w:World):Value→List Val→Prop
 |mk (v:Value) (cs:List VC) (l:List Val) (hr:Rd w v cs) (hl:cs.length=l.length) (h:∀(i:Nat) (c:VC) (x:Val),cs[i]? =some c→l[i]? =some x→c.kind=x.kind∧c.n=x.num∧c.s=x.txt)
   (hv:∀(i:Nat) (c:VC) (x:Val),cs[i]? =some c→l[i]? =some x→VAt w (.slice c.la c.ln c.lc) x.list):VAt w v l
structure VCAt (w:World)(c:VC)(x:Val):Prop where
 kind:c.kind=x.kind
 n:c.n=x.num
 s:c.s=x.txt
 l:VAt w (.slice c.la c.ln c.lc) x.list
end Go.Va
