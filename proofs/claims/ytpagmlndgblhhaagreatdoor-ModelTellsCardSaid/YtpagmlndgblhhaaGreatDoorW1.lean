/- Parts of the proof: what the functions and the plain laws give that later parts lean on. Conditions: none beyond those that each theorem names. -/
import Derived.WalkKit
import Derived.WalkSpells
import Derived.WalkLawsBesides
import Derived.Lib.Hide
import Derived.Deep.QuietTactic
import Derived.BigQuiet
import Derived.StillTailTactics
import Derived.Deep.RegionHeld3
import Derived.Deep.RegionLaw
import Derived.Deep.RegionWith
import Derived.Deep.DeepCutAuto
import Derived.Deep.LoopGhost
import Derived.Deep.DeepFit
import Derived.Maps.Own
import Derived.Maps.OwnOps
import Derived.Maps.OwnSet
import Derived.DeepKeys4
import Derived.BigGuardPart
import Derived.Test.YtpagmlndgblhhaaGreatDoorRows
import Derived.Deep.CutBlock
import Derived.RangeFuncRecord
import Derived.Shelf.LaysM
import Derived.Shelf.LaysC
import Derived.Shelf.Small.Strs
import Derived.Shelf.Small.Wraps
import Derived.Shelf.Strings.Prefix
import Derived.Shelf.Strings.Cut
import Derived.Shelf.Strings.Split
import Derived.Shelf.Strings.OnBuilder
import Derived.Shelf.Strconv.Itoa3
import Derived.Shelf.Strconv.Itoa4
import Derived.Shelf.Strconv.AtoiAll
import Derived.Shelf.Strconv.ParseIntPublic10
import Derived.Test.YtpagmlndgblhhaaGreatDoorProg
set_option maxRecDepth 100000
set_option maxHeartbeats 8000000
namespace Go.Own
open Go.RowKit
structure Keeps (S:Nat->Prop)(w w':World):Prop where
 os:w'.os=w.os
 tape:w'.tape=w.tape
 output:w'.output=w.output
 size:w.heap.size<=w'.heap.size
 block:∀k,k<w.heap.size->¬S k->w'.heap[k]? =w.heap[k]?
namespace Keeps
variable{S T:Nat->Prop} {w w' w'':World}
theorem refl (S:Nat->Prop)(w:World):Keeps S w w:=⟨rfl,rfl,rfl,Nat.le_refl _,fun _ _ _=>rfl⟩
theorem trans (h:Keeps S w w')(k:Keeps T w' w'')(hs:∀j,j<w.heap.size->T j->S j):Keeps S w w'':=
 ⟨k.os.trans h.os,k.tape.trans h.tape,k.output.trans h.output,Nat.le_trans h.size k.size,fun j hj hn=>
   (k.block j (Nat.lt_of_lt_of_le hj h.size) (fun t=>hn (hs j hj t))).trans (h.block j hj hn)⟩
theorem mono (h:Keeps S w w')(hs:∀j,j<w.heap.size->S j->T j):Keeps T w w':=
 ⟨h.os,h.tape,h.output,h.size,fun j hj hn=>h.block j hj (fun s=>hn (hs j hj s))⟩
theorem drew (h:Keeps S w w'):Keeps S w w'.drew:=⟨h.os,h.tape,h.output,h.size,h.block⟩
theorem alloc (h:Keeps S w w')(o:Obj):Keeps S w (w'.alloc o):=
 h.trans (T:=fun _=>False) ⟨rfl,rfl,rfl,by simp,fun k hk _=>Below.heap_alloc _ _ _ hk⟩ (fun _ _ f=>f.elim)
theorem setCell (h:Keeps S w w'){p:Addr}(hp:S p.block\/w.heap.size<=p.block)(u:Value):Keeps S w (w'.setCell p u):=
 h.trans (T:=fun j=>j=p.block) ⟨rfl,rfl,rfl,by simp[World.setCell],fun k _ hn=>Below.heap_setCell _ _ _ _ hn⟩
  (fun j hj e=>by subst e;rcases hp with hp|hp;exact hp;omega)
theorem of_below (h:Below w.heap.size w w'):Keeps S w w':=⟨h.os,h.tape,h.output,h.size,fun k hk _=>h.block k hk⟩
theorem of_grown {row:Option Nat}(h:w.grownBy w' row)(hs:∀k,row=some k->S k):Keeps S w w':=
 ⟨h.os,h.tape,h.output,h.size,fun k hk hn=>h.block k hk (fun e=>hn (hs k e.symm))⟩
theorem below (h:Keeps S w w'){B:Nat}(hB:B<=w.heap.size)(hs:∀k,k<B->¬S k):Below B w w':=
 ⟨h.os,h.tape,h.output,h.size,fun k hk=>h.block k (by omega) (hs k hk)⟩
theorem cell (h:Keeps S w w'){p:Addr}(hp:p.block<w.heap.size)(hn:¬S p.block):w'.cell? p=w.cell? p:=
 World.cell?_of_block (w:=w) (h.block p.block hp hn)
theorem frozen (h:Keeps S w w'){p:Addr}(hp:p.block<w.heap.size)(hn:¬S p.block):w'.frozen? p=w.frozen? p:=
 World.frozen?_of_block (w:=w) (h.block p.block hp hn)
theorem below_of (h:Keeps (fun _=>False) w w'):Below w.heap.size w w':=h.below (Nat.le_refl _) (fun _ _ f=>f)
theorem comp (h:Keeps S w w')(k:Keeps S w' w''):Keeps S w w'':=h.trans k (fun _ _ s=>s)
end Keeps
theorem ydg {w:World}{b:Nat}{o:Obj}(h:w.heap[b]? =some o):b<w.heap.size:=(Array.getElem?_eq_some_iff.1 h).1
theorem ybB {w:World}{b:Nat}{c:Array Value}{t:TypeId}{fr:Nat×Nat}(h:w.heap[b]? =some (.cells c t fr))(o:Nat):w.cell? ⟨b,o,none⟩=c[o]? :=by
 simp[World.cell?,h]
theorem yb3 {w:World}{b:Nat}{c:Array Value}{t:TypeId}(h:w.heap[b]? =some (.cells c t (0,0)))(o:Nat):w.frozen? ⟨b,o,none⟩=false:=by
 simp[World.frozen?,h]
class Cells (α:Type) where
 sz:Nat
 enc:α->List Value
 len:∀x,(enc x).length=sz
 one:∀x,∀v∈enc x,v.oneCell'=true
open Cells (sz enc)
def RowAt {α:Type}[Cells α](w:World)(e:TypeId)(v:Value)(xs:List α):Prop:=
 (v= .slice none 0 0/\xs=[])\/
 ∃g off cap cur,v= .slice (some ⟨g,off,none⟩) xs.length cap/\w.heap[g]? =some (.cells cur e (0,0))/\xs.length<=cap/\cap<=maxLen/\off+cap*sz α<=cur.size/\
  ∀j u,(xs.flatMap enc)[j]? =some u->cur[off+j]? =some u
theorem ybu {α:Type}[Cells α](xs:List α):(xs.flatMap enc).length=xs.length*sz α:=by
 induction xs with
 |nil=>simp
 |cons x r ih=>simp[List.flatMap_cons,ih,Cells.len,Nat.add_mul,Nat.add_comm]
theorem ybg {α:Type}[Cells α]:∀(xs:List α) (i j:Nat) (x:α),xs[i]? =some x->j<sz α->(xs.flatMap enc)[i*sz α+j]? =(enc x)[j]?
 |[],i,j,x,h,_=>by simp at h
 |y::r,0,j,x,h,hj=>by
  simp at h;subst h;simp only[List.flatMap_cons,Nat.zero_mul,Nat.zero_add];rw[List.getElem?_append_left (by rw[Cells.len];exact hj)]
 |y::r,i+1,j,x,h,hj=>by
  simp at h;simp only[List.flatMap_cons];rw[List.getElem?_append_right (by rw[Cells.len,Nat.add_mul];omega),Cells.len];have:(i+1)*sz α+j - sz α=i*sz α+j:=by rw[Nat.add_mul];omega
  rw[this];exact ybg r i j x h hj
theorem yl9 {α:Type}[Cells α](xs:List α):∀u∈xs.flatMap enc,u.oneCell'=true:=by
 intro u A;obtain⟨x,_,h⟩:=List.mem_flatMap.1 A;exact Cells.one x u h
namespace RowAt
variable{α:Type} [Cells α] {w w':World} {e:TypeId} {v:Value} {xs:List α}
theorem nil (w:World)(e:TypeId):RowAt (α:=α) w e (.slice none 0 0) []:=.inl ⟨rfl,rfl⟩
theorem slice (h:RowAt w e v xs):∃a cap,v= .slice a xs.length cap:=by
 rcases h with⟨rfl,rfl⟩|⟨g,A,cap,B,rfl,_⟩
 .exact⟨none,0,rfl⟩
 .exact⟨_,cap,rfl⟩
theorem length_le (h:RowAt w e v xs):xs.length<=maxLen:=by
 rcases h with⟨_,rfl⟩|⟨g,A,C,B,_,_,E,D,_⟩
 .simp
 .omega
theorem frame (h:RowAt w e v xs)(hb:∀g,v.ownBlock=some g->w'.heap[g]? =w.heap[g]?):RowAt w' e v xs:=by
 rcases h with h|⟨g,A,C,B,rfl,D,h⟩
 .exact .inl h
 .exact .inr ⟨g,A,C,B,rfl,by rw[hb g rfl];exact D,h⟩
theorem lt (h:RowAt w e v xs){g:Nat}(hg:v.ownBlock=some g):g<w.heap.size:=by
 rcases h with⟨rfl,_⟩|⟨E,A,D,C,rfl,B,_⟩
 .cases hg
 .simp[Value.ownBlock]at hg;subst hg;exact ydg B
theorem keep {S:Nat->Prop}(h:RowAt w e v xs)(hk:Keeps S w w')(hs:∀g,v.ownBlock=some g->¬S g):RowAt w' e v xs:=
 h.frame fun g hg=>hk.block g (h.lt hg) (hs g hg)
theorem cells {g off n cap:Nat}(h:RowAt w e (.slice (some ⟨g,off,none⟩) n cap) xs):
  ∀j u,(xs.flatMap enc)[j]? =some u->w.cell? ⟨g,off+j,none⟩=some u:=by
 rcases h with⟨h,_⟩|⟨G,A,B,F,hv,D,_,_,_,E⟩
 .cases h
 .cases hv
  intro j u C;rw[ybB D];exact E j u C
theorem cell {g off n cap:Nat}(h:RowAt w e (.slice (some ⟨g,off,none⟩) n cap) xs){i:Nat}{x:α}(hx:xs[i]? =some x){j:Nat}(hj:j<sz α):
  w.cell? ⟨g,off+(i*sz α+j),none⟩=(enc x)[j]? :=by
 have A:(enc x)[j]? =some ((enc x)[j]'(by rw[Cells.len];exact hj)):=List.getElem?_eq_getElem _;rw[A];exact h.cells _ _ (by rw[ybg xs i j x hx hj];exact A)
theorem frozen {g off n cap:Nat}(h:RowAt w e (.slice (some ⟨g,off,none⟩) n cap) xs)(o:Nat):w.frozen? ⟨g,o,none⟩=false:=by
 rcases h with⟨h,_⟩|⟨E,A,B,D,hv,C,_⟩
 .cases h
 .cases hv
  exact yb3 C o
theorem cut {g off k cap:Nat}(h:RowAt w e (.slice (some ⟨g,off,none⟩) k cap) xs){n:Nat}(hn:n<=xs.length):
  RowAt w e (.slice (some ⟨g,off,none⟩) n n) (xs.take n):=by
 rcases h with⟨h,_⟩|⟨J,B,C,A,hv,E,I,H,G,F⟩
 .cases h
 .cases hv
  have D:(xs.take n).length=n:=by simp[hn]
  refine .inr ⟨_,_,n,A,by rw[D],E,by omega,by omega,Nat.le_trans (Nat.add_le_add_left (Nat.mul_le_mul_right _ (by omega)) _) G,fun j u hu=>F j u ?_⟩;have:xs.flatMap enc=(xs.take n).flatMap enc++(xs.drop n).flatMap enc:=by rw[<-List.flatMap_append,List.take_append_drop]
  rw[this,List.getElem?_append_left (List.getElem?_eq_some_iff.1 hu).1];exact hu
theorem from_ {g off k cap:Nat}(h:RowAt w e (.slice (some ⟨g,off,none⟩) k cap) xs){n:Nat}(hn:n<=xs.length)(hc:n<cap):
  RowAt w e (.slice (some ⟨g,off+n*sz α,none⟩) (xs.length - n) (cap - n)) (xs.drop n):=by
 rcases h with⟨h,_⟩|⟨J,C,D,B,hv,F,I,H,G,A⟩
 .cases h
 .cases hv
  refine .inr ⟨g,off+n*sz α,cap - n,B,by simp,F,by simp;omega,by omega,?_,fun j u hu=> ?_⟩
  .have:(cap - n)*sz α=cap*sz α - n*sz α:=Nat.sub_mul _ _ _
   have:n*sz α<=cap*sz α:=Nat.mul_le_mul_right _ (by omega);omega
  .have:xs.flatMap enc=(xs.take n).flatMap enc++(xs.drop n).flatMap enc:=by rw[<-List.flatMap_append,List.take_append_drop]
   rw[Nat.add_assoc];refine A _ u ?_;have E:((xs.take n).flatMap (enc (α:=α))).length=n*sz α:=by rw[ybu];simp[Nat.min_eq_left hn]
   rw[this,List.getElem?_append_right (by omega),E];simpa using hu
end RowAt
theorem yb0 (b:Nat):∀(l:List Value) (o:Nat) (w:World) (k:Nat),k≠b->(w.setCells b o l).heap[k]? =w.heap[k]?
 |[],_,_,_,_=>rfl
 |v::r,o,w,k,h=>by
  rw[World.setCells,yb0 b r (o+1) _ k h];exact Below.heap_setCell _ _ _ _ h
theorem ybH (b:Nat)(t:TypeId)(fr:Nat×Nat):∀(l:List Value) (o:Nat) (w:World) (cur:Array Value),w.heap[b]? =some (.cells cur t fr)->
  ∃cur',(w.setCells b o l).heap[b]? =some (.cells cur' t fr)/\cur'.size=cur.size/\(∀j u,l[j]? =some u->o+j<cur.size->cur'[o+j]? =some u)/\(∀k,k<o\/o+l.length<=k->cur'[k]? =cur[k]?)
 |[],o,w,cur,h=>⟨cur,h,rfl,by simp,fun _ _=>rfl⟩
 |v::r,o,w,cur,h=>by
  have h1:(w.setCell ⟨b,o,none⟩ v).heap[b]? =some (.cells (cur.setIfInBounds o v) t fr):=by
   simp[World.setCell,Array.getElem?_modify,h]
  obtain⟨cur',D,C,B,A⟩:=ybH b t fr r (o+1) _ _ h1;refine⟨cur',D,by rw[C];simp,fun j u hu hj=> ?_,fun k hk=> ?_⟩
  .cases j with
   |zero=>
    simp at hu;subst hu;rw[A _ (by omega)];simp at hj;simp[hj]
   |succ j=>
    have:=B j u (by simpa using hu) (by simp;omega);rw[<-this]
    congr 1;omega
  .rw[A k (by simp at hk;omega)]
   rw[Array.getElem?_setIfInBounds];simp at hk;rw[if_neg (by omega)]
theorem ybG (b:Nat):∀(l:List Value) (o:Nat) (w:World),(w.setCells b o l).heap.size=w.heap.size/\(w.setCells b o l).os=w.os/\(w.setCells b o l).tape=w.tape/\(w.setCells b o l).output=w.output
 |[],_,_=>⟨rfl,rfl,rfl,rfl⟩
 |v::r,o,w=>by
  obtain⟨h1,h2,h3,h4⟩:=ybG b r (o+1) (w.setCell ⟨b,o,none⟩ v);exact⟨by rw[World.setCells,h1];simp[World.setCell],h2,h3,h4⟩
theorem Keeps.setCells {S:Nat->Prop}{w w':World}(h:Keeps S w w'){b:Nat}(hb:S b\/w.heap.size<=b)(o:Nat)(l:List Value):Keeps S w (w'.setCells b o l):=by
 obtain⟨D,C,B,A⟩:=ybG b l o w';exact h.trans (T:=fun j=>j=b) ⟨C,B,A,by rw[D];exact Nat.le_refl _,fun k _ hn=>yb0 b l o w' k hn⟩ (fun j hj e=>by subst e;rcases hb with hb|hb;exact hb;omega)
theorem RowAt.set {α:Type}[Cells α]{w:World}{e:TypeId}{xs:List α}{g off n cap:Nat}(h:RowAt w e (.slice (some ⟨g,off,none⟩) n cap) xs){i:Nat}(hi:i<xs.length)(y:α):
  RowAt (w.setCells g (off+i*sz α) (enc y)) e (.slice (some ⟨g,off,none⟩) n cap) (xs.set i y):=by
 rcases h with⟨h,_⟩|⟨W,I,K,C,hv,Q,U,T,S,R⟩
 .cases h
 .cases hv
  obtain⟨B,O,N,M,L⟩:=ybH g e (0,0) (enc y) (off+i*sz α) w C Q;have V:off+(i*sz α+sz α)<=C.size:=by
   have:(i+1)*sz α<=cap*sz α:=Nat.mul_le_mul_right _ (by omega);rw[Nat.add_mul]at this;omega
  refine .inr ⟨g,off,cap,B,by simp,O,by simpa using U,T,by rw[N];exact S,fun j u hu=> ?_⟩;have A:=(List.getElem?_eq_some_iff.1 hu).1;rw[ybu,List.length_set]at A;have P:0<sz α:=by
   rcases Nat.eq_zero_or_pos (sz α)with h0|h0
   .rw[h0]at A;simp at A
   .exact h0
  have J:=Nat.div_add_mod j (sz α);have hm:=Nat.mod_lt j P;generalize hq:j/sz α=q at J;generalize hr:j%sz α=r at J hm;have E:q<xs.length:=by rw[<-hq];exact Nat.div_lt_of_lt_mul (by rw[Nat.mul_comm];exact A)
  have G:j=q*sz α+r:=by rw[Nat.mul_comm];omega
  subst G;by_cases hqi:q=i
  .subst hqi
   have D:(xs.set q y)[q]? =some y:=by simp[E]
   rw[ybg _ q r y D hm]at hu;have:=M r u hu (by omega);rw[<-this];congr 1;omega
  .have D:(xs.set i y)[q]? =some xs[q]:=by rw[List.getElem?_set_ne (fun e=>hqi e.symm)];simp
   rw[ybg _ q r _ D hm,<-ybg xs q r _ (by simp:xs[q]? =some xs[q]) hm]at hu;rw[L _ ?_]
   .exact R _ u hu
   .rw[Cells.len]
    rcases Nat.lt_or_gt_of_ne hqi with F|H
    .left
     have:(q+1)*sz α<=i*sz α:=Nat.mul_le_mul_right _ F;rw[Nat.add_mul]at this;omega
    .right
     have:(i+1)*sz α<=q*sz α:=Nat.mul_le_mul_right _ H;rw[Nat.add_mul]at this;omega
section
variable{α:Type} [Cells α] {P:Program} {w:World}
theorem yde (t ty e:TypeId)(i:TypeInfo)(z:Value)(bytes:Nat)(ht:P.underlying t=some (.slice e))(hi:P.info? e=some i)(hz:i.zero=some z)
  (hsize:i.size=sz α)(hby:i.bytes=bytes)(hzs:z.cells.size=sz α)
  {v:Value}{xs:List α}(h:RowAt w e v xs)(ad:Addr)(m c:Nat)(ys:List α)(hm:ys.length=m)(hnews:∀j u,(ys.flatMap enc)[j]? =some u->w.cell? (ad.add j)=some u)
  (hbytes:(xs.length+m)*bytes<=140737488355328)(h63:xs.length+m<=maxLen):
  ∃v' w',(Builtin.append_ #[t,t] ty #[v,.slice (some ad) m c]).run P w= .ok v' w'/\RowAt w' e v' (xs++ys)/\w.grownBy w' v.ownBlock/\
   (∀g,v'.ownBlock=some g->v.ownBlock=some g\/(w.heap.size<=g/\g<w'.heap.size)):=by
 subst hm;have H:xs.length+ys.length<=9223372036854775807:=by simp only[maxLen]at h63;omega
 have G:∀(A:Nat),A<xs.length+ys.length->∀(row:Option Nat),
   RowAt (w.drew.alloc (.cells ((xs.flatMap enc).toArray++(ys.flatMap enc).toArray++Builtin.zeroCells z.cells (grownCap w (xs.length+ys.length) A e - (xs.length+ys.length))) e)) e
    (.slice (some ⟨w.heap.size,0,none⟩) (xs.length+ys.length) (grownCap w (xs.length+ys.length) A e)) (xs++ys)/\
   w.grownBy (w.drew.alloc (.cells ((xs.flatMap enc).toArray++(ys.flatMap enc).toArray++Builtin.zeroCells z.cells (grownCap w (xs.length+ys.length) A e - (xs.length+ys.length))) e)) row:=by
  intro A o row;have S:=grownCap_ge w (xs.length+ys.length) A e;have K:grownCap w (xs.length+ys.length) A e<=maxLen:=grownCap_le_maxLen w _ A e h63;refine⟨.inr ⟨w.heap.size,0,_,_,by simp,heap_alloc_new w.drew _,by simpa using S,K,?_,?_⟩,⟨rfl,rfl,rfl,by simp,fun k hk _=>Below.heap_alloc w.drew _ k hk⟩⟩
  .simp only[Array.size_append,List.size_toArray,size_zeroCells,hzs,ybu,<-Nat.add_mul,Nat.zero_add]
   refine Nat.mul_le_mul_right _ ?_;omega
  .intro j u F
   rw[List.flatMap_append]at F;have I:=(List.getElem?_eq_some_iff.1 F).1;rw[Nat.zero_add,Array.getElem?_append_left (by simpa using I)];simpa using F
 rcases h with⟨rfl,rfl⟩|⟨g,B,E,O,rfl,J,f,K,T,C⟩
 .by_cases hm:ys.length=0
  .have l:ys=[]:=List.eq_nil_of_length_eq_zero hm
   subst l;refine⟨.slice none 0 0,w,?_,RowAt.nil w e,⟨rfl,rfl,rfl,Nat.le_refl _,fun _ _ _=>rfl⟩,by simp[Value.ownBlock]⟩;simp[Builtin.append_,run_underlying ht,sizeOf,typeInfo,hi,Builtin.lenOf,Builtin.firstCells,loadCells,loadCellsFrom]
  .have L:=run_append_nil (P:=P) w t ty e i z ht hi hz ad ys.length c (ys.flatMap enc) (by rw[ybu,hsize]) hnews (by omega) (by simp at H;omega) (by have n:=hbytes;simp only[List.length_nil,Nat.zero_add]at n;rw[hby];omega)
   have D:=G 0 (by simp;omega) (Value.ownBlock (.slice none 0 0));simp only[List.length_nil,List.nil_append,Array.empty_append,List.flatMap_nil,Nat.zero_add]at D;exact⟨_,_,L,D.1,D.2,fun g J=>.inr (by simp[Value.ownBlock]at J;subst J;simp)⟩
 .have R:(ys.flatMap (enc (α:=α))).length=ys.length*i.size:=by rw[ybu,hsize]
  have Q:(xs.flatMap (enc (α:=α))).length=xs.length*i.size:=by rw[ybu,hsize]
  have M:∀j u,(xs.flatMap enc)[j]? =some u->w.cell? ((⟨g,B,none⟩:Addr).add j)=some u:=by
   intro j u F;rw[Addr.add_lit,ybB J];exact C j u F
  by_cases hroom:xs.length+ys.length<=E
  .have U:B+xs.length*sz α+ys.length*sz α<=O.size:=by
    have:=Nat.mul_le_mul_right (sz α) hroom;rw[Nat.add_mul]at this;omega
   have L:=run_append_room_cells (P:=P) w t ty e i ht hi g B xs.length E ad ys.length c (ys.flatMap enc) R hnews (yl9 ys) hroom
    (fun j hj=>by rw[ybB J];simp;rw[R]at hj;rw[hsize]at hj|-;omega) (fun j _=>yb3 J _)
   obtain⟨N,d,b,a,Z⟩:=ybH g e (0,0) (ys.flatMap enc) (B+xs.length*i.size) w O J;obtain⟨Y,X,W,V⟩:=ybG g (ys.flatMap enc) (B+xs.length*i.size) w;refine⟨_,_,L,.inr ⟨g,B,E,N,by simp,d,by simpa using hroom,K,by rw[b];exact T,fun j u F=> ?_⟩,
    ⟨X,W,V,by rw[Y];exact Nat.le_refl _,fun k _ hk=>yb0 g _ _ w k (fun e=>hk (by simp[Value.ownBlock,e]))⟩,fun g' hg'=>.inl (by simpa[Value.ownBlock]using hg')⟩
   rw[List.flatMap_append]at F;by_cases hj:j<xs.length*sz α
   .rw[List.getElem?_append_left (by rw[ybu];exact hj)]at F
    rw[Z _ (by left;rw[hsize];omega)];exact C j u F
   .rw[List.getElem?_append_right (by rw[ybu];omega),ybu]at F
    have I:=(List.getElem?_eq_some_iff.1 F).1;rw[ybu]at I;have:=a _ u F (by rw[hsize];omega);rw[<-this];congr 1;rw[hsize];omega
  .have L:=run_append_grow (P:=P) w t ty e i z ht hi hz ⟨g,B,none⟩ xs.length E (xs.flatMap enc) Q M ad ys.length c (ys.flatMap enc) R hnews (by omega) (by omega) (growslice_fits (by omega) (by rw[hby];exact hbytes))
   have D:=G E (by omega) (Value.ownBlock (.slice (some ⟨g,B,none⟩) xs.length E));exact⟨_,_,L,D.1,D.2,fun g' hg'=>.inr (by simp[Value.ownBlock]at hg';subst hg';simp)⟩
end
def blk (w:World)(k:Nat):Option Obj:=w.heap[k]?
@[go_sem] theorem ypo (w:World) (k:Nat):blk w.drew k=blk w k:=rfl
@[go_sem] theorem yoQ (w:World) (n k:Nat):blk (w.drewN n) k=blk w k:=rfl
@[go_sem] theorem yk8 (w:World) (o:Obj) (k:Nat) (h:k<w.heap.size):blk (w.alloc o) k=blk w k:=Below.heap_alloc w o k h
@[go_sem] theorem yhJ (w:World) (b o:Nat) (v:Value) (k:Nat) (h:¬k=b):blk (w.setCell ⟨b,o,none⟩ v) k=blk w k:=Below.heap_setCell w _ v k h
open Go.Maps
structure MapTy (κ ν:Type) where
 ke:κ->Value
 ve:ν->Value
 inj:∀a b,ke a=ke b->a=b
namespace MapTy
variable{κ ν:Type} [DecidableEq κ]
def get:List (κ×ν)->κ->Option ν
 |[],_=>none
 |(a,b)::r,k=>if a=k then some b else get r k
def upd (m:List (κ×ν))(k:κ)(v:ν):List (κ×ν):=
 if(get m k).isSome then m.map (fun p=>if p.1=k then(k,v)else p)else m++[(k,v)]
theorem yl6 {m:List (κ×ν)}{k:κ}:get m k=none↔∀p∈m,p.1≠k:=by
 induction m with
 |nil=>simp[get]
 |cons p r ih=>
  obtain⟨a,b⟩:=p;unfold get;by_cases h:a=k
  .subst h;simp
  .simp[h,ih]
theorem yls (m:List (κ×ν))(k:κ)(v:ν):(upd m k v).map (·.1)=if(get m k).isSome then m.map (·.1)else m.map (·.1)++[k]:=by
 unfold upd;split
 .rw[List.map_map]
  refine List.map_congr_left fun p _=> ?_;simp only[Function.comp];split
  .rename_i h;exact h.symm
  .rfl
 .simp
theorem upd_nodup {m:List (κ×ν)}(hn:(m.map (·.1)).Nodup)(k:κ)(v:ν):((upd m k v).map (·.1)).Nodup:=by
 rw[yls];split
 .exact hn
 .rename_i h
  have B:get m k=none:=by simpa using h
  rw[yl6]at B;refine List.nodup_append.2 ⟨hn,by simp,?_⟩;intro a D b A;simp at A;subst A;obtain⟨p,C,rfl⟩:=List.mem_map.1 D;exact B p C
theorem yjo (m:List (κ×ν))(k j:κ)(v:ν)(h:get m k=none):get (m++[(k,v)]) j=if j=k then some v else get m j:=by
 induction m with
 |nil=>simp[get,eq_comm]
 |cons p r ih=>
  obtain⟨a,b⟩:=p;unfold get at h;by_cases hk:a=k
  .rw[if_pos hk]at h;cases h
  .rw[if_neg hk]at h
   simp only[List.cons_append,get];by_cases hj:a=j
   .subst hj;simp[hk]
   .rw[if_neg hj,if_neg hj];exact ih h
theorem ynC (m:List (κ×ν))(k j:κ)(v:ν):get (m.map (fun p=>if p.1=k then(k,v)else p)) j=if j=k then(if(get m k).isSome then some v else none)else get m j:=by
 induction m with
 |nil=>simp[get]
 |cons p r ih=>
  obtain⟨a,b⟩:=p;simp only[List.map_cons];by_cases hk:a=k
  .subst hk
   by_cases hj:j=a
   .subst hj;simp[get]
   .have A:a≠j:=fun e=>hj e.symm
    simp only[if_true,get,A,if_false,hj];rw[ih,if_neg hj]
  .simp only[hk,if_false,get]
   by_cases hj:a=j
   .subst hj;simp[hk]
   .rw[if_neg hj,if_neg hj];exact ih
theorem ynB (m:List (κ×ν))(k:κ)(v:ν)(j:κ):get (upd m k v) j=if j=k then some v else get m j:=by
 unfold upd;split
 .rename_i h
  rw[ynC,h];simp
 .rename_i h
  exact yjo m k j v (by simpa using h)
end MapTy
open MapTy
def ylj {κ ν:Type}[DecidableEq κ](x:κ):List (κ×ν)->Nat->Option (Nat×ν)
 |[],_=>none
 |(a,b)::r,i=>if a=x then some (i,b)else ylj x r (i+1)
theorem yd1 {κ ν:Type}[DecidableEq κ]{x:κ}:∀{m:List (κ×ν)} {i:Nat},ylj x m i=none->MapTy.get m x=none
 |[],_,_=>rfl
 |(a,b)::r,i,h=>by
  unfold ylj at h;unfold MapTy.get;by_cases e:a=x
  .rw[if_pos e]at h;cases h
  .rw[if_neg e]at h|-;exact yd1 h
theorem yd0 {κ ν:Type}[DecidableEq κ]{x:κ}:∀{m:List (κ×ν)} {i j:Nat} {v:ν},ylj x m i=some (j,v)->MapTy.get m x=some v/\i<=j/\m[j - i]? =some (x,v)
 |[],_,_,_,h=>by cases h
 |(a,b)::r,i,j,v,h=>by
  unfold ylj at h;unfold MapTy.get;by_cases e:a=x
  .rw[if_pos e]at h|-
   cases h;subst e;simp
  .rw[if_neg e]at h|-
   obtain⟨h1,h2,h3⟩:=yd0 h;refine⟨h1,by omega,?_⟩;have:j - i=(j - (i+1))+1:=by omega
   rw[this];simpa using h3
structure KLaw {κ ν:Type}[DecidableEq κ](M:MapTy κ ν)(P:Program)(k:TypeId):Prop where
 check:∀(W:World) (em:Bool) (x:κ),(Instr.checkKey em 10000 k (M.ke x)).run P W= .ok () W
 find:∀(W:World) (x:κ) (m:List (κ×ν)) (es:List MapEntry),es.map (fun(y:MapEntry)=>(y.key,y.val))=m.map (fun p=>(M.ke p.1,M.ve p.2))->
  (Instr.findKey k (M.ke x) es).run P W= .ok ((ylj x m 0).map fun p=>(p.1,M.ve p.2)) W
 stays:∀(W:World) (x:κ),(Instr.keyThatStays (M.ke x) (M.ke x)).run P W= .ok (M.ke x) W
theorem KLaw.of_now {κ ν:Type}[DecidableEq κ]{M:MapTy κ ν}{P:Program}{k:TypeId}{d:TypeDesc}(hd:P.underlying k=some d)
  (check:∀(W:World) (em:Bool) (x:κ),(Instr.checkKey em 10000 k (M.ke x)).run P W= .ok () W)
  (now:∀x y,Instr.sameNow d (M.ke x) (M.ke y)=some (decide (x=y)))
  (bits:∀x,Instr.sameBits 10000 (M.ke x) (M.ke x)=true):KLaw M P k where
 check:=check
 find W x m A h:=by
  have B:∀(A:List MapEntry) (m:List (κ×ν)) (i:Nat),A.map (fun(y:MapEntry)=>(y.key,y.val))=m.map (fun p=>(M.ke p.1,M.ve p.2))->
    Instr.findNow d (M.ke x) A i=some ((ylj x m i).map fun p=>(p.1,M.ve p.2)):=by
   intro A
   induction A with
   |nil=>
    intro m i h;cases m with
    |nil=>rfl
    |cons p r=>simp at h
   |cons y r ih=>
    intro m i h;cases m with
    |nil=>simp at h
    |cons p q=>
     obtain⟨a,b⟩:=p;simp only[List.map_cons,List.cons.injEq,Prod.mk.injEq]at h;obtain⟨⟨E,D⟩,C⟩:=h;unfold ylj Instr.findNow;rw[E,now];by_cases e:x=a
     .simp[e,D]
     .have F:¬a=x:=fun h=>e h.symm
      simp only[decide_eq_false e,F,if_false];exact ih q (i+1) C
  simp only[Instr.findKey,Sem.run_bind,run_underlying hd,Result.andThen_ok,B _ _ 0 h];rfl
 stays W x:=by simp[Instr.keyThatStays,bits]
def MapAt {κ ν:Type}(M:MapTy κ ν)(w:World)(b:Nat)(m:List (κ×ν)):Prop:=
 ∃es clock,w.heap[b]? =some (.map es clock)/\es.toList.map (fun(y:MapEntry)=>(y.key,y.val))=m.map (fun p=>(M.ke p.1,M.ve p.2))/\(m.map (·.1)).Nodup
theorem ycn (w:World)(a:Addr)(v:Value):(w.setCell a v).heap.size=w.heap.size:=by simp[World.setCell]
def setBlock (w:World)(b:Nat)(o:Obj):World:={w with heap:=w.heap.setIfInBounds b o}
theorem ybt (w:World)(b:Nat)(o:Obj)(j:Nat)(h:j≠b):(setBlock w b o).heap[j]? =w.heap[j]? :=by
 simp only[setBlock,Array.getElem?_setIfInBounds];rw[if_neg (fun e=>h e.symm)]
theorem ybI (w:World)(b:Nat)(o:Obj)(h:b<w.heap.size):(setBlock w b o).heap[b]? =some o:=by
 simp[setBlock,h]
theorem ycY (w:World)(b:Nat)(o:Obj):(setBlock w b o).heap.size=w.heap.size:=by simp[setBlock]
@[go_sem] theorem ymm (w:World) (b:Nat) (o:Obj) (c off:Nat) (h:¬c=b):(setBlock w b o).cell? ⟨c,off,none⟩=w.cell? ⟨c,off,none⟩:=
 World.cell?_of_block (w:=w) (ybt w b o c h)
@[go_sem] theorem ykH (w:World) (b:Nat) (o:Obj) (c off:Nat) (h:¬c=b):(setBlock w b o).frozen? ⟨c,off,none⟩=w.frozen? ⟨c,off,none⟩:=
 World.frozen?_of_block (w:=w) (ybt w b o c h)
@[go_sem] theorem ylz (w:World) (b:Nat) (o:Obj):(setBlock w b o).heap.size=w.heap.size:=ycY w b o
@[go_sem] theorem ymM (w:World) (b:Nat) (o:Obj) (k:Nat) (h:¬k=b):blk (setBlock w b o) k=blk w k:=ybt w b o k h
theorem Keeps.setBlock {S:Nat->Prop}{w w':World}(h:Keeps S w w'){b:Nat}(hb:S b\/w.heap.size<=b)(o:Obj):Keeps S w (setBlock w' b o):=
 h.trans (T:=fun j=>j=b) ⟨rfl,rfl,rfl,by rw[ycY];exact Nat.le_refl _,fun k _ hn=>ybt w' b o k hn⟩ (fun j hj e=>by subst e;rcases hb with hb|hb;exact hb;omega)
namespace MapAt
variable{κ ν:Type} [DecidableEq κ] {M:MapTy κ ν} {P:Program} {k e t:TypeId} {w w':World} {b:Nat} {m:List (κ×ν)}
omit [DecidableEq κ]in
theorem frame (h:MapAt M w b m)(hb:w'.heap[b]? =w.heap[b]?):MapAt M w' b m:=by
 obtain⟨C,A,B,h⟩:=h;exact⟨C,A,by rw[hb];exact B,h⟩
omit [DecidableEq κ]in
theorem lt (h:MapAt M w b m):b<w.heap.size:=by
 obtain⟨C,A,B,h⟩:=h;exact ydg B
omit [DecidableEq κ]in
theorem nodup (h:MapAt M w b m):(m.map (·.1)).Nodup:=by
 obtain⟨_,_,_,_,h⟩:=h;exact h
omit [DecidableEq κ]in
theorem keep {S:Nat->Prop}(h:MapAt M w b m)(hk:Keeps S w w')(hs:¬S b):MapAt M w' b m:=h.frame (hk.block b h.lt hs)
theorem look (h:MapAt M w b m)(K:KLaw M P k)(ht:P.underlying t=some (.map k e)){z:Value}(hz:∀W,(zeroValue e).run P W= .ok z W)(x:κ)(c:Bool):
  ∀W:World,blk W b=blk w b->(Instr.lookup t (.map (some b)) (M.ke x) c).run P W= .ok (if c then .tuple #[((MapTy.get m x).map M.ve).getD z,.bool (MapTy.get m x).isSome]else((MapTy.get m x).map M.ve).getD z) W:=by
 intro W F;obtain⟨E,A,H,G,I⟩:=h;have D:W.heap[b]? =some (.map E A):=F.trans H;have B:=K.find W x m E.toList G;cases hs:ylj x m 0 with
 |none=>
  rw[hs]at B;have C:=yd1 hs;simp only[Option.map_none]at B;simp[Instr.lookup,run_underlying ht,MapKept.run_getObj_map D,K.check W _ x,B,hz,Result.andThen,C]
 |some p=>
  obtain⟨j,v⟩:=p;rw[hs]at B;obtain⟨C,_,_⟩:=yd0 hs;simp only[Option.map_some]at B;simp[Instr.lookup,run_underlying ht,MapKept.run_getObj_map D,K.check W _ x,B,Result.andThen,C]
theorem store (h:MapAt M w b m)(K:KLaw M P k)(ht:P.underlying t=some (.map k e))(x:κ)(v:ν):
  ∃o,(∀W:World,blk W b=blk w b->(Instr.mapUpdate t (.map (some b)) (M.ke x) (M.ve v)).run P W= .ok () (setBlock W b o))/\
   ∀W:World,W.heap[b]? =some o->MapAt M W b (upd m x v):=by
 have H:=h.nodup;obtain⟨C,A,Q,F,X⟩:=h;have E:=fun W=>K.find W x m C.toList F;cases hs:ylj x m 0 with
 |none=>
  simp only[hs,Option.map_none]at E;have I:=yd1 hs;refine⟨.map (C.push ⟨M.ke x,M.ve v,A⟩) (A+1),fun W hW=> ?_,fun W hW=>⟨_,_,hW,?_,MapTy.upd_nodup H x v⟩⟩
  .have D:W.heap[b]? =some (.map C A):=hW.trans Q
   simp[Instr.mapUpdate,run_underlying ht,MapKept.run_getObj_map D,K.check W false x,E,MapKept.run_setObj_map _ D,Result.andThen,setBlock]
  .simp[MapTy.upd,I,F]
 |some p=>
  obtain⟨j,v0⟩:=p;simp only[hs,Option.map_some]at E;obtain⟨I,_,B⟩:=yd0 hs;rw[Nat.sub_zero]at B;have G:∃e0:MapEntry,C.toList[j]? =some e0/\e0.key=M.ke x:=by
   have:(m.map (fun p=>(M.ke p.1,M.ve p.2)))[j]? =some (M.ke x,M.ve v0):=by simp[B]
   rw[<-F]at this;simp only[List.getElem?_map,Option.map_eq_some_iff]at this;obtain⟨e0,T,N⟩:=this;exact⟨e0,T,congrArg Prod.fst N⟩
  obtain⟨e0,O,J⟩:=G;have L:C[j]? =some e0:=by simpa using O
  refine⟨.map (C.modify j fun e'=>{e' with key:=M.ke x,val:=M.ve v}) A,fun W hW=> ?_,fun W hW=>⟨_,_,hW,?_,MapTy.upd_nodup H x v⟩⟩
  .have D:W.heap[b]? =some (.map C A):=hW.trans Q
   simp[Instr.mapUpdate,run_underlying ht,MapKept.run_getObj_map D,K.check W false x,E,L,J,K.stays W x,MapKept.run_setObj_map _ D,Result.andThen,setBlock]
  .have U:MapTy.upd m x v=m.set j (x,v):=by
    unfold MapTy.upd;rw[I];simp only[Option.isSome_some,if_true];refine List.ext_getElem? fun i=> ?_;rw[List.getElem?_map,List.getElem?_set];by_cases hij:j=i
    .subst hij
     rw[B,if_pos rfl,if_pos (List.getElem?_eq_some_iff.1 B).1];simp
    .rw[if_neg hij]
     cases hmi:m[i]? with
     |none=>rfl
     |some p=>
      simp only[Option.map_some];rw[if_neg];intro S;apply hij;have R:(m.map (·.1))[j]? =some x:=by simp[B]
      have V:(m.map (·.1))[i]? =some x:=by simp[hmi,S]
      exact(List.getElem?_inj (List.getElem?_eq_some_iff.1 R).1 H).1 (R.trans V.symm)
   rw[U,List.map_set,<-F,Array.toList_modify,ChangeMaps.modify_eq_set _ _ _ _ O,List.map_set]
end MapAt
theorem ycV {α:Type}[Cells α]{P:Program}{w:World}{ops:Array Oper}{rest:List Oper}{o:Oper}{a:Act}{Q:Exit->Act->World->Prop}
  (hg:o.guard=none)(s x:Operand)(t:TypeId)(hop:o.op=Op.call {callee:=Callee.builtin Builtin.append,args:=#[s,x],argTypes:=#[t,t]})
  (e:TypeId)(i:TypeInfo)(z:Value)(bytes:Nat)(ht:P.underlying t=some (.slice e))(hi:P.info? e=some i)(hz:i.zero=some z)
  (hsize:i.size=sz α)(hby:i.bytes=bytes)(hzs:z.cells.size=sz α)
  (v:Value)(xs:List α)(hs:a.eval s=v)(h:RowAt w e v xs)(ad:Addr)(m c:Nat)(ys:List α)(hx:a.eval x= .slice (some ad) m c)(hm:ys.length=m)(hnews:∀j u,(ys.flatMap enc)[j]? =some u->w.cell? (ad.add j)=some u)
  (hbytes:(xs.length+m)*bytes<=140737488355328)(h63:xs.length+m<=maxLen)
  (hK:∀v' w',RowAt w' e v' (xs++ys)->w.grownBy w' v.ownBlock->(∀g,v'.ownBlock=some g->v.ownBlock=some g\/(w.heap.size<=g/\g<w'.heap.size))->wpList P ops Q rest (a.put o.dst v') w'):
  wpList P ops Q (o::rest) a w:=
 wpList_plain hg fun _ hk=>by
  obtain⟨v',w',A,D,C,B⟩:=yde (P:=P) t o.type e i z bytes ht hi hz hsize hby hzs h ad m c ys hm hnews hbytes h63;unfold Oper.wp execOp;simp only[hop,resolve,invoke,builtin,Sem.run_bind,Sem.run_pure,Result.andThen_ok,List.map_toArray,List.map_cons,List.map_nil,hs,hx,A];exact hk _ _ (hK v' w' D C B)
end Go.Own
namespace Go.Own
open Go.RowKit
theorem _root_.zca {w:World}{g:Nat}{l:List Value}{t:TypeId}{f:Nat×Nat}(h:w.heap[g]? =some (.cells l.toArray t f))(k:Nat){u:Value}(e:l[k]? =some u):w.cell? ⟨g,k,none⟩=some u:=by rw[ybB h,List.getElem?_toArray];exact e
theorem _root_.zba {w w':World}{o:Obj}(h:w'=w.alloc o):Below w.heap.size w w':=by rw[h];exact(Below.refl _ _).alloc (Nat.le_refl _) _
theorem _root_.zha {w w':World}{o:Obj}(h:w'=w.alloc o):w'.heap[w.heap.size]? =some o:=by rw[h];exact heap_alloc_new _ _
theorem _root_.zal {w:World}{o:Obj}:Below w.heap.size w (w.alloc o):=(Below.refl _ _).alloc (Nat.le_refl _) _
theorem _root_.zlt {w:World}{b:Nat}{o:Obj}(h:w.heap[b]? =some o):b<w.heap.size:=ydg h
theorem _root_.zch {w:World}{b:Nat}{c:Array Value}{t:TypeId}{fr:Nat×Nat}(h:w.heap[b]? =some (.cells c t fr))(o:Nat):w.cell? ⟨b,o,none⟩=c[o]? :=ybB h o
theorem _root_.zfr {w:World}{b:Nat}{c:Array Value}{t:TypeId}(h:w.heap[b]? =some (.cells c t (0,0)))(o:Nat):w.frozen? ⟨b,o,none⟩=false:=yb3 h o
theorem _root_.zkb {S:Nat->Prop}{w w':World}(h:Below w.heap.size w w'):Keeps S w w':=Keeps.of_below h
theorem _root_.zhd {p:Prop}(h:p):Hid p:=h
theorem _root_.zh2 {a b:Prop}(x:a)(y:b):Hid (a/\b):=⟨x,y⟩
theorem _root_.zh3 {a b c:Prop}(x:a)(y:b)(z:c):Hid (a/\b/\c):=⟨x,y,z⟩
theorem _root_.zh4 {a b c d:Prop}(x:a)(y:b)(z:c)(u:d):Hid (a/\b/\c/\d):=⟨x,y,z,u⟩
theorem _root_.zh5 {a b c d e:Prop}(x:a)(y:b)(z:c)(u:d)(v:e):Hid (a/\b/\c/\d/\e):=⟨x,y,z,u,v⟩
theorem _root_.zh6 {a b c d e f:Prop}(x:a)(y:b)(z:c)(u:d)(v:e)(w:f):Hid (a/\b/\c/\d/\e/\f):=⟨x,y,z,u,v,w⟩
theorem _root_.zh7 {a b c d e f g:Prop}(x:a)(y:b)(z:c)(u:d)(v:e)(w:f)(s:g):Hid (a/\b/\c/\d/\e/\f/\g):=⟨x,y,z,u,v,w,s⟩
theorem _root_.zh8 {a b c d e f g h:Prop}(x:a)(y:b)(z:c)(u:d)(v:e)(w:f)(s:g)(t:h):Hid (a/\b/\c/\d/\e/\f/\g/\h):=⟨x,y,z,u,v,w,s,t⟩
theorem _root_.zge {α:Type}{l:List α}{i:Nat}{a:α}(h:l[i]? =some a):∃q:i<l.length,l[i]=a:=List.getElem?_eq_some_iff.1 h
theorem _root_.zmg {α:Type}{l:List α}{i:Nat}{a:α}(h:l[i]? =some a):a∈l:=List.mem_of_getElem? h
theorem _root_.zai {a b:Prop}(x:a)(y:b):a/\b:=⟨x,y⟩
instance _root_.zc0:Coe World Nat:=⟨fun w=>w.heap.size⟩
instance _root_.zc1:Coe Int Value:=⟨.int .i64⟩
instance _root_.zc2:Coe Nat Value:=⟨fun n=>.int .i64 n⟩
instance _root_.zc3:Coe ByteArray Value:=⟨.string⟩
instance _root_.zc4:Coe Bool Value:=⟨.bool⟩
theorem _root_.zq4 {w:World}{g:Nat}{a0 a1 a2 a3:Value}{r:List Value}{t:TypeId}{f:Nat×Nat}(h:w.heap[g]? =some (.cells (a0::a1::a2::a3::r).toArray t f)):w.cell? ⟨g,0,none⟩=some a0/\w.cell? ⟨g,1,none⟩=some a1/\w.cell? ⟨g,2,none⟩=some a2/\w.cell? ⟨g,3,none⟩=some a3/\g<w:=⟨zca h 0 rfl,zca h 1 rfl,zca h 2 rfl,zca h 3 rfl,zlt h⟩
theorem _root_.zq11 {w:World}{g:Nat}{a0 a1 a2 a3 a4 a5 a6 a7 a8 a9 a10:Value}{r:List Value}{t:TypeId}{f:Nat×Nat}(h:w.heap[g]? =some (.cells (a0::a1::a2::a3::a4::a5::a6::a7::a8::a9::a10::r).toArray t f)):w.cell? ⟨g,0,none⟩=some a0/\w.cell? ⟨g,1,none⟩=some a1/\w.cell? ⟨g,2,none⟩=some a2/\w.cell? ⟨g,3,none⟩=some a3/\w.cell? ⟨g,4,none⟩=some a4/\w.cell? ⟨g,5,none⟩=some a5/\w.cell? ⟨g,6,none⟩=some a6/\w.cell? ⟨g,7,none⟩=some a7/\w.cell? ⟨g,8,none⟩=some a8/\w.cell? ⟨g,9,none⟩=some a9/\w.cell? ⟨g,10,none⟩=some a10/\g<w:=⟨zca h 0 rfl,zca h 1 rfl,zca h 2 rfl,zca h 3 rfl,zca h 4 rfl,zca h 5 rfl,zca h 6 rfl,zca h 7 rfl,zca h 8 rfl,zca h 9 rfl,zca h 10 rfl,zlt h⟩
theorem _root_.Go.RowKit.Hid.o {p:Prop}(h:Hid p):p:=h.out
abbrev _root_.zna:=@beq_eq_false_iff_ne
abbrev _root_.znb:=@heap_alloc_new
abbrev _root_.znc:=@Nat.le_refl
abbrev _root_.znd:=@decide_eq_false
abbrev _root_.zne:=@Below.heap_alloc
abbrev _root_.znf:=@Nat.le_trans
abbrev _root_.zng:=@bodyPost_ret
abbrev _root_.zni:=@Array.getElem?_modify
abbrev _root_.znj:=@Nat.lt_of_lt_of_le
abbrev _root_.znk:=@List.length_append
abbrev _root_.znl:=@cond_false
abbrev _root_.znm:=@cond_true
abbrev _root_.znn:=@Below.heap_setCell
abbrev _root_.zno:=@decide_eq_true
abbrev _root_.znq:=@Nat.zero_le
abbrev _root_.znr:=@List.drop_eq_getElem_cons
abbrev _root_.zns:=@List.drop_eq_nil_of_le
abbrev _root_.znt:=@World.cell?_of_block
abbrev _root_.znu:=@World.frozen?_of_block
abbrev _root_.znv:=@Below.refl
abbrev _root_.znw:=@Below.trans
abbrev _root_.znx:=@of_decide_eq_true
abbrev _root_.zny:=@of_decide_eq_false
abbrev _root_.znz:=@decide_eq_false_iff_not
abbrev _root_.zma:=@List.getElem?_cons_zero
abbrev _root_.zmb:=@List.getElem?_cons_succ
abbrev _root_.zmc:=@List.getElem?_toArray
abbrev _root_.zmd:=@List.length_map
abbrev _root_.zme:=@List.mem_cons_of_mem
abbrev _root_.zmf:=@List.mem_cons_self
abbrev _root_.zmh:=@List.length_singleton
abbrev _root_.zmi:=@List.length_dropLast
abbrev _root_.zmj:=@List.take_of_length_le
abbrev _root_.zmk:=@IntWalk.i64_in
abbrev _root_.zml:=@ByteArray.toList_eq
abbrev _root_.zmm:=@Nat.add_assoc
abbrev _root_.zmn:=@Nat.le_of_lt
end Go.Own
namespace Go.Own
open Go.RowKit Go.Own.MapTy
def ycU (w:World)(k:Nat)(W:World):Prop:=blk W k=blk w k
@[go_sem] theorem yoe (w:World) (k:Nat):ycU w k w:=rfl
@[go_sem] theorem yof (w:World) (k:Nat) (W:World):ycU w k W.drew↔ycU w k W:=Iff.rfl
@[go_sem] theorem yn0 (w:World) (k n:Nat) (W:World):ycU w k (W.drewN n)↔ycU w k W:=Iff.rfl
@[go_sem] theorem yn1 (w:World) (k:Nat) (W:World) (o:Obj) (h:k<W):ycU w k (W.alloc o)↔ycU w k W:=by unfold ycU;rw[yk8 _ _ _ h]
@[go_sem] theorem yms (w:World) (b o k:Nat) (v:Value) (W:World) (h:¬k=b):ycU w k (W.setCell ⟨b,o,none⟩ v)↔ycU w k W:=by unfold ycU;rw[yhJ _ _ _ _ _ h]
theorem Keeps.same {S:Nat->Prop}{w W W':World}(K:Keeps S W W'){k:Nat}(hk:k<W)(hs:¬S k)(h:ycU w k W):ycU w k W':=(K.block k hk hs).trans h
theorem MapAt.lookS {κ ν:Type}[DecidableEq κ]{M:MapTy κ ν}{P:Program}{k e t:TypeId}{w:World}{b:Nat}{m:List (κ×ν)}(h:MapAt M w b m)(K:KLaw M P k)(ht:P.underlying t=some (.map k e)){z:Value}(hz:∀W,(zeroValue e).run P W= .ok z W)(x:κ)(c:Bool):
  ∀W:World,ycU w b W->(Instr.lookup t (.map (some b)) (M.ke x) c).run P W= .ok (if c then .tuple #[((MapTy.get m x).map M.ve).getD z,(MapTy.get m x).isSome]else((MapTy.get m x).map M.ve).getD z) W:=
 fun W hW=>h.look K ht hz x c W hW
theorem ycH {α:Type}[Cells α]{P:Program}{t e:TypeId}{i:TypeInfo}(ht:P.underlying t=some (.slice e))(hi:P.info? e=some i)(hsize:i.size=Cells.sz α){w:World}{g off n cap:Nat}{xs:List α}(h:RowAt w e (.slice (some ⟨g,off,none⟩) n cap) xs){k:Nat}(hk:k<=n):
  ∃off',(∀W:World,(Instr.slice t (.slice (some ⟨g,off,none⟩) n cap) (some (.int .i64 k)) none none).run P W= .ok (.slice (some ⟨g,off',none⟩) (n - k) (cap - k)) W)/\RowAt w e (.slice (some ⟨g,off',none⟩) (n - k) (cap - k)) (xs.drop k):=by
 have A:n=xs.length/\xs.length<=cap:=by
  rcases h with⟨h,_⟩|⟨F,off',B,D,hv,_,C,_⟩
  .cases h
  .cases hv;exact⟨rfl,C⟩
 obtain⟨rfl,E⟩:=A;by_cases hk2:cap=k
 .refine⟨off,fun W=> ?_,?_⟩
  .simp[Instr.slice,run_underlying ht,Instr.sliceBounds,Instr.sliceBound,asIntOf,hk,sizeOf,typeInfo,hi,Result.andThen,hk2]
  .have:xs.length=k:=by omega
   rw[List.drop_of_length_le (by omega)];have:=h.cut (n:=0) (by omega);rw[show xs.length - k=0 from by omega,show cap - k=0 from by omega];simpa using this
 .refine⟨off+k*Cells.sz α,fun W=> ?_,h.from_ hk (by omega)⟩
  simp[Instr.slice,run_underlying ht,Instr.sliceBounds,Instr.sliceBound,asIntOf,hk,sizeOf,typeInfo,hi,Result.andThen,hk2,hsize,Addr.add_lit]
instance:Cells Int where
 sz:=1
 enc:=fun n=>[.int .i64 n]
 len:=fun _=>rfl
 one:=by intro x v hv;simp at hv;subst hv;rfl
theorem ydf {w:World}{e:TypeId}{xs:List Int}{g off n cap:Nat}(h:RowAt w e (.slice (some ⟨g,off,none⟩) n cap) xs){i:Nat}{x:Int}(hx:xs[i]? =some x):w.cell? ⟨g,off+i,none⟩=some (.int .i64 x):=by
 have:=h.cell hx (j:=0) (by decide);simpa[Cells.sz,Cells.enc]using this
theorem yix:∀xs:List Int,xs.flatMap (Cells.enc (α:=Int))=xs.map (Value.int .i64)
 |[]=>rfl
 |x::r=>by
  rw[List.flatMap_cons,yix r];rfl
theorem RowAt.made {α:Type}[Cells α]{w:World}{b:Nat}{e:TypeId}{cs:Array Value}{xs:List α}{n:Nat}(h:w.heap[b]? =some (.cells cs e (0,0)))(hc:cs.toList=xs.flatMap Cells.enc)(hn:n=xs.length)(hm:n<=maxLen):
  RowAt w e (.slice (some ⟨b,0,none⟩) n n) xs:=by
 subst hn;refine .inr ⟨b,0,xs.length,cs,rfl,h,znc _,hm,?_,fun j u hu=> ?_⟩
 .have:=congrArg List.length hc
  rw[Go.Own.ybu]at this;simp at this;omega
 .rw[<-hc]at hu
  simpa using hu
instance:Cells Bool where
 sz:=1
 enc:=fun n=>[.bool n]
 len:=fun _=>rfl
 one:=by intro x v hv;simp at hv;subst hv;rfl
theorem ylE {w:World}{e:TypeId}{xs:List Bool}{g off n cap:Nat}(h:RowAt w e (.slice (some ⟨g,off,none⟩) n cap) xs){i:Nat}{x:Bool}(hx:xs[i]? =some x):w.cell? ⟨g,off+i,none⟩=some (.bool x):=by
 have:=h.cell hx (j:=0) (by decide);simpa[Cells.sz,Cells.enc]using this
theorem ygv:∀xs:List Bool,xs.flatMap (Cells.enc (α:=Bool))=xs.map Value.bool
 |[]=>rfl
 |x::r=>by
  rw[List.flatMap_cons,ygv r];rfl
theorem yeM {P:Program}{t e:TypeId}{i:TypeInfo}(ht:P.underlying t=some (.slice e))(hi:P.info? e=some i)(hz:i.zero=some (.bool false))(hs:i.size=1)(hb:i.bytes=1)(n:Nat)(hn:n<=140737488355328):
  ∃cs:Array Value,(∀W:World,(Instr.makeSlice t (.int .i64 n) (.int .i64 n)).run P W= .ok (.slice (some ⟨W,0,none⟩) n n) (W.alloc (.cells cs e)))/\cs.toList=(List.replicate n false).flatMap Cells.enc:=by
 refine⟨madeCells (Value.bool false).cells (n*i.size),fun W=> ?_,?_⟩
 .have:=run_make (P:=P) W t e i (.bool false) ht hi hz .i64 .i64 n n (by omega) (by omega) (by rw[hb];omega) (by omega)
  simpa using this
 .rw[ygv,hs]
  simp only[Nat.mul_one,Value.cells,List.map_replicate];exact toList_madeCells_one _ _
end Go.Own
namespace Go.Own
open Go.RowKit Go.Own.MapTy
open Cells (sz enc)
theorem ypU {W w1:World}(hb:Below W W w1):(∀b o,b<W.heap.size->w1.cell? ⟨b,o,none⟩=W.cell? ⟨b,o,none⟩)/\(∀b o,b<W.heap.size->w1.frozen? ⟨b,o,none⟩=W.frozen? ⟨b,o,none⟩):=
 ⟨fun b o h=>hb.cell (p:=⟨b,o,none⟩) h,fun b o h=>hb.frozen (p:=⟨b,o,none⟩) h⟩
structure ElemOf (α:Type)[Cells α](P:Program)(t e:TypeId)(bytes:Nat):Prop where
 ht:P.underlying t=some (.slice e)
 hi:∃i z,P.info? e=some i/\i.zero=some z/\i.size=sz α/\i.bytes=bytes/\z.cells.size=sz α
theorem ycj {α:Type}[Cells α]{P:Program}{t e:TypeId}{bytes:Nat}{z:Value}{n:Nat}(ht:P.underlying t=some (.slice e))(h:(P.info? e).map (fun i=>(i.zero,i.size,i.bytes))=some (some z,n,bytes))(hn:n=sz α)(hz:z.cells.size=sz α):ElemOf α P t e bytes:=by
 obtain⟨i,A,D,C,B⟩:=info_parts h;exact⟨ht,i,z,A,D,by rw[C,hn],B,hz⟩
theorem RowAt.addr {α:Type}[Cells α]{w:World}{e:TypeId}{xs:List α}{ad:Option Addr}{n cap:Nat}(h:RowAt w e (.slice ad n cap) xs){i:Nat}{x:α}(hx:xs[i]? =some x):∃g off,ad=some ⟨g,off,none⟩/\g<w.heap.size:=by
 rcases h with⟨_,rfl⟩|⟨g,off,A,_,hv,B,_⟩
 .simp at hx
 .cases hv;exact⟨g,off,rfl,zlt B⟩
theorem yae {α:Type}{l:List α}{k:Nat}(h:k<l.length):∃x,l[k]? =some x:=⟨l[k],by simp⟩
theorem yf4 {P:Program}{t e:TypeId}{i:TypeInfo}(ht:P.underlying t=some (.slice e))(hi:P.info? e=some i){ad:Option Addr}{k n cap:Nat}(hn:n<=cap)(W:World):
  (Instr.slice t (.slice ad k cap) none (some (.int .i64 n)) none).run P W= .ok (.slice ad n cap) W:=by
 have A:ad.map (fun a=>a.add 0)=ad:=by cases ad<;>simp[Addr.add]
 simp[Instr.slice,run_underlying ht,Instr.sliceBounds,Instr.sliceBound,asIntOf,hn,sizeOf,typeInfo,hi,Result.andThen,A]
theorem RowAt.pre {α:Type}[Cells α]{w:World}{e:TypeId}{xs:List α}{ad:Option Addr}{k cap:Nat}(h:RowAt w e (.slice ad k cap) xs){n:Nat}(hn:n<=xs.length):
  n<=cap/\RowAt w e (.slice ad n cap) (xs.take n):=by
 rcases h with⟨h,rfl⟩|⟨J,B,C,A,hv,E,I,H,G,F⟩
 .cases h
  simp at hn;subst hn;exact⟨znc _,.inl ⟨rfl,rfl⟩⟩
 .cases hv
  have D:(xs.take n).length=n:=by simp[hn]
  refine⟨by omega,.inr ⟨_,_,cap,A,by rw[D],E,by omega,H,G,fun j u hu=>F j u ?_⟩⟩;have:xs.flatMap enc=(xs.take n).flatMap enc++(xs.drop n).flatMap enc:=by rw[<-List.flatMap_append,List.take_append_drop]
  rw[this,List.getElem?_append_left (zge hu).1];exact hu
end Go.Own
namespace Go.Own
open Go.RowKit Go.Own.MapTy
def Ext (w:World):Type:={W:World//Below w w W}
instance(w:World):Nonempty (Ext w):=⟨⟨w,znv _ w⟩⟩
def ext {w:World}(e:Ext w):World:=e.1
theorem yeq {w:World}(e:Ext w):Below w w (ext e):=e.2
@[go_sem] theorem ypl {w:World} (e:Ext w) (b o:Nat) (h:b<w):(ext e).cell? ⟨b,o,none⟩=w.cell? ⟨b,o,none⟩:=e.2.cell (p:=⟨b,o,none⟩) h
@[go_sem] theorem yn2 {w:World} (e:Ext w) (b o:Nat) (h:b<w):(ext e).frozen? ⟨b,o,none⟩=w.frozen? ⟨b,o,none⟩:=e.2.frozen (p:=⟨b,o,none⟩) h
@[go_sem] theorem ynF {w:World} (e:Ext w) (k:Nat) (h:k<w):blk (ext e) k=blk w k:=e.2.block k h
@[go_sem] theorem ypk {w w0:World} (e:Ext w) (k:Nat) (h:k<w):ycU w0 k (ext e)↔ycU w0 k w:=by unfold ycU;rw[ynF e k h]
theorem yaA {P:Program}{id:Nat}{Q:Exit->Act->World->Prop}{a:Act}{w:World}{l:List Oper}(hm:P.follows .mixedOrders=true)(hB:Region.lexB .any l.toArray=true)
  (h:wpQuiet P l.toArray (fun W=>∃e:Ext w,W=ext e) (fun a'=>∀W,Below w w W->Q .normal a' W) l a):(Code.region id l.toArray true).wp P Q a w:=by
 have A:(fun a'=>∀W,Below w w W->Q .normal a' W)=(fun a'=>∀W,(∃e:Ext w,W=ext e)->Q .normal a' W):=by
  funext a'
  refine propext ⟨fun h W ⟨e,he⟩=>h W (he▸e.2),fun h W hW=>h W ⟨⟨W,hW⟩,rfl⟩⟩
 rw[A]at h;exact wp_region_quiet (C:=fun W=>∃e:Ext w,W=ext e) hm hB ⟨⟨{w with drawn:=w.drawn+1},(znv _ w).drew⟩,rfl⟩ (by simpa using h)
theorem yci {P:Program}{f:FuncId}{args:Array Value}{w:World}{e:Ext w}{v:Value}(h:Calls P f args (ext e) fun en w'=>en= .returned v/\Below (ext e).heap.size (ext e) w'):
  Calls P f args (ext e) fun en w''=>en= .returned v/\∃e':Ext w,w''=ext e':=
 h.mono fun _ w' ⟨h1,h2⟩=>⟨h1,⟨w',e.2.trans (h2.mono e.2.size)⟩,rfl⟩
theorem yfL {P:Program}{f:FuncId}{args:Array Value}{w:World}{e:Ext w}{v:Value}(h:Calls P f args (ext e) fun en w'=>en= .returned v/\ext e=w'):
  Calls P f args (ext e) fun en w''=>en= .returned v/\∃e':Ext w,w''=ext e':=
 h.mono fun _ _ ⟨h1,h2⟩=>⟨h1,e,h2.symm⟩
end Go.Own
namespace Go.Own
open Go.RowKit Go.Own.MapTy
open Cells (sz enc)
theorem RowAt.slice_mk {α:Type}[Cells α]{w:World}{e:TypeId}{xs:List α}{g off cap:Nat}{cur:Array Value}(hg:w.heap[g]? =some (.cells cur e (0,0)))(h:xs.length<=cap/\cap<=maxLen/\off+cap*sz α<=cur.size/\∀j u,(xs.flatMap enc)[j]? =some u->cur[off+j]? =some u):
 RowAt w e (.slice (some ⟨g,off,none⟩) xs.length cap) xs:=.inr ⟨g,off,cap,cur,rfl,hg,h⟩
theorem RowAt.alloc {α:Type}[Cells α]{w:World}{e:TypeId}{v:Value}{xs:List α}(h:RowAt w e v xs)(o:Obj):RowAt (w.alloc o) e v xs:=h.frame fun _ hg=>zne _ _ _ (h.lt hg)
theorem RowAt.drew {α:Type}[Cells α]{w:World}{e:TypeId}{v:Value}{xs:List α}(h:RowAt w e v xs):RowAt w.drew e v xs:=h.frame fun _ _=>rfl
theorem RowAt.below {α:Type}[Cells α]{w w':World}{e:TypeId}{v:Value}{xs:List α}(h:RowAt w e v xs)(K:Below w w w'):RowAt w' e v xs:=h.keep (zkb K) (fun _ _ f=>f)
theorem yat {w:World}{X Y:Obj}:((w.alloc X).alloc Y).heap[w.heap.size+1]? =some Y:=by
 rw[show w.heap.size+1=(w.alloc X).heap.size by simp];exact znb _ _
theorem yaD {w:World}{X Y:Obj}:((w.alloc X).alloc Y).heap[w.heap.size]? =some X:=(zne _ _ _ (by simp)).trans (znb _ _)
theorem ycN {b o n m B:Nat}(h:B<=b):∀g,(Value.slice (some ⟨b,o,none⟩) n m).ownBlock=some g->B<=g:=by
 intro g A;simp[Value.ownBlock]at A;omega
theorem ybC {w W w1:World}{v v':Value}(K:Keeps (fun _=>False) w W)(hk:Keeps (fun j=>v.ownBlock=some j) W w1)(hv:∀g,v.ownBlock=some g->w.heap.size<=g)(hf:∀g,v'.ownBlock=some g->v.ownBlock=some g\/W.heap.size<=g):
  Keeps (fun _=>False) w w1/\∀g,v'.ownBlock=some g->w.heap.size<=g:=by
 refine⟨K.trans hk (fun j hj e=>by have:=hv j e;omega),fun g hg=> ?_⟩;rcases hf g hg with h|h
 .exact hv g h
 .exact znf K.size h
theorem ybk {α:Type}[Cells α]{P:Program}{t e:TypeId}{bytes:Nat}(E:ElemOf α P t e bytes){W:World}{ops:Array Oper}{rest:List Oper}{o:Oper}{a:Act}{Q:Exit->Act->World->Prop}
  (hg:o.guard=none)(s x:Operand)(hop:o.op=Op.call {callee:=Callee.builtin Builtin.append,args:=#[s,x],argTypes:=#[t,t]})
  {v:Value}{xs:List α}(h:RowAt W e v xs)(y:α)(hs:a.eval s=v){b:Nat}(hx:a.eval x= .slice (some ⟨b,0,none⟩) 1 1){fr:Nat×Nat}(hW:W.heap[b]? =some (.cells (enc y).toArray e fr))
  (hl:(xs.length+1)*bytes<=140737488355328)(h63:xs.length+1<=maxLen)
  (hK:∀a1 q1 w1,RowAt w1 e (.slice a1 (xs.length+1) q1) (xs++[y])->Keeps (fun j=>v.ownBlock=some j) W w1->(∀g,(Value.slice a1 (xs.length+1) q1).ownBlock=some g->v.ownBlock=some g\/W.heap.size<=g)->wpList P ops Q rest (a.put o.dst (.slice a1 (xs.length+1) q1)) w1):
  wpList P ops Q (o::rest) a W:=by
 obtain⟨i,z,hi,I,H,G,F⟩:=E.hi;refine ycV hg s x t hop e i z bytes E.ht hi I H G F v xs hs h ⟨b,0,none⟩ 1 1 [y] hx rfl ?_ hl h63 ?_
 .intro j u C
  rw[Addr.add_lit,zch hW,Nat.zero_add];simp at C|-;exact C
 .intro J w1 D A B
  obtain⟨a1,q1,rfl⟩:=D.slice;rw[znk,zmh]at*;exact hK a1 q1 w1 D (Keeps.of_grown A (fun k h=>h)) (fun g h=>(B g h).imp id (fun h=>h.1))
theorem ylD {α:Type}[Cells α]{P:Program}{t e:TypeId}{bytes:Nat}(E:ElemOf α P t e bytes){W:World}{v u:Value}{xs ys:List α}(h:RowAt W e v xs)(hu:RowAt W e u ys)
  (hl:(xs.length+ys.length)*bytes<=140737488355328)(h63:xs.length+ys.length<=maxLen)(ty:TypeId):
  ∃a1 q1 w1,(Builtin.append_ #[t,t] ty #[v,u]).run P W= .ok (.slice a1 (xs.length+ys.length) q1) w1/\RowAt w1 e (.slice a1 (xs.length+ys.length) q1) (xs++ys)/\Keeps (fun j=>v.ownBlock=some j) W w1/\
   ∀g,(Value.slice a1 (xs.length+ys.length) q1).ownBlock=some g->v.ownBlock=some g\/W.heap.size<=g:=by
 obtain⟨i,z,hi,S,R,Q,O⟩:=E.hi;rcases hu with⟨rfl,rfl⟩|⟨g,A,C,I,rfl,J,K,hm,N,H⟩
 .have D:(Builtin.append_ #[t,t] ty #[v,.slice none 0 0]).run P W= .ok v W:=by
   rcases h with⟨rfl,rfl⟩|⟨g,A,C,I,rfl,J,K,_⟩
   .simp[Builtin.append_,run_underlying E.ht,sizeOf,typeInfo,hi,Builtin.lenOf,Builtin.firstCells]
   .simp[Builtin.append_,run_underlying E.ht,sizeOf,typeInfo,hi,Builtin.lenOf,Builtin.firstCells,loadCells,K,storeCells,Addr.add_lit]
  obtain⟨M,L,rfl⟩:=h.slice;exact⟨M,L,W,D,by simpa using h,Keeps.refl _ _,fun g hg=>.inl hg⟩
 .obtain⟨T,w1,D,B,F,G⟩:=yde (P:=P) t ty e i z bytes E.ht hi S R Q O h ⟨g,A,none⟩ ys.length C ys rfl (fun j u hu=>by rw[Addr.add_lit,zch J];exact H j u hu) hl h63
  obtain⟨a1,q1,rfl⟩:=B.slice;rw[znk]at*;exact⟨a1,q1,w1,D,B,Keeps.of_grown F (fun k h=>h),fun g h=>(G g h).imp id (fun h=>h.1)⟩
theorem yaC {α:Type}[Cells α]{P:Program}{t e:TypeId}{bytes:Nat}(E:ElemOf α P t e bytes){W:World}{ops:Array Oper}{o:Oper}{a:Act}{K:Act->World->Prop}{Q:Exit->Act->World->Prop}{N:Prop}
  (hg:o.guard=none)(s x:Operand)(hop:o.op=Op.call {callee:=Callee.builtin Builtin.append,args:=#[s,x],argTypes:=#[t,t]})
  {v u:Value}(hs:a.eval s=v)(hx:a.eval x=u){xs ys:List α}(h:RowAt W e v xs)(hu:RowAt W e u ys)
  (hl:(xs.length+ys.length)*bytes<=140737488355328)(h63:xs.length+ys.length<=maxLen)
  (n:Nat)(hn:xs.length+ys.length=n)
  (hK:∀a1 q1 w1,RowAt w1 e (.slice a1 n q1) (xs++ys)->Keeps (fun j=>v.ownBlock=some j) W w1->(∀g,(Value.slice a1 n q1).ownBlock=some g->v.ownBlock=some g\/W.heap.size<=g)->K (a.put o.dst (.slice a1 n q1)) w1):
  if Region.wanted o (yielded ops a.tmps)=true then Oper.wp P o a W K Q else N:=by
 subst hn;have D:Region.wanted o (yielded ops a.tmps)=true:=by simp[Region.wanted,hg]
 rw[if_pos D];obtain⟨a1,q1,w1,F,A,B,C⟩:=ylD E h hu hl h63 o.type;unfold Oper.wp execOp;simp only[hop,resolve,invoke,builtin,Sem.run_bind,Sem.run_pure,Result.andThen_ok,List.map_toArray,List.map_cons,List.map_nil,hs,hx,F];exact hK a1 q1 w1 A B C
theorem RowAt.lit {α:Type}[Cells α]{W:World}{b:Nat}{e:TypeId}{y:α}(h:W.heap[b]? =some (.cells (enc y).toArray e (0,0))):RowAt W e (.slice (some ⟨b,0,none⟩) 1 1) [y]:=
 RowAt.made h (by simp) rfl (by unfold maxLen;omega)
theorem RowAt.none_ {α:Type}[Cells α]{W:World}{b:Nat}{e:TypeId}(h:W.heap[b]? =some (.cells #[] e (0,0))):RowAt (α:=α) W e (.slice (some ⟨b,0,none⟩) 0 0) []:=
 RowAt.made h (by simp) rfl (by unfold maxLen;omega)
theorem yiC {α:Type}[Cells α]{P:Program}{t e:TypeId}{bytes:Nat}(E:ElemOf α P t e bytes){w:World}{ad:Option Addr}{n cap:Nat}{xs:List α}(h:RowAt w e (.slice ad n cap) xs){k:Nat}(hk:k<=xs.length):
  (∀W:World,(Instr.slice t (.slice ad n cap) none (some (.int .i64 k)) none).run P W= .ok (.slice ad k cap) W)/\RowAt w e (.slice ad k cap) (xs.take k):=by
 obtain⟨i,z,hi,D,C,B,A⟩:=E.hi;obtain⟨a,b⟩:=h.pre hk;exact⟨fun W=>yf4 E.ht hi a W,b⟩
theorem yfQ {α:Type}[Cells α]{P:Program}{t e:TypeId}{bytes:Nat}(E:ElemOf α P t e bytes){w:World}{ad:Option Addr}{n cap:Nat}{xs:List α}(h:RowAt w e (.slice ad n cap) xs){k:Nat}(hk:k<=xs.length):
  ∃ad',(∀W:World,(Instr.slice t (.slice ad n cap) (some (.int .i64 k)) none none).run P W= .ok (.slice ad' (n - k) (cap - k)) W)/\RowAt w e (.slice ad' (n - k) (cap - k)) (xs.drop k):=by
 obtain⟨i,z,hi,L,I,K,J⟩:=E.hi;cases ad with
 |none=>
  rcases h with⟨h,rfl⟩|⟨g,A,c,B,h,_⟩
  .cases h
   simp at hk;subst hk;exact⟨none,fun W=>by simp[Instr.slice,run_underlying E.ht,Instr.sliceBounds,Instr.sliceBound,asIntOf,sizeOf,typeInfo,hi,Result.andThen],.inl ⟨rfl,rfl⟩⟩
  .cases h
 |some ad=>
  rcases h with⟨h,_⟩|⟨g,A,c,B,h,F,D⟩
  .cases h
  .cases h
   obtain⟨C,H,G⟩:=ycH E.ht hi I (RowAt.slice_mk F D) hk;exact⟨_,H,G⟩
theorem RowAt.setOne {α:Type}[Cells α]{w:World}{e:TypeId}{xs:List α}{g off n cap:Nat}(h:RowAt w e (.slice (some ⟨g,off,none⟩) n cap) xs){i:Nat}{x y:α}(hx:xs[i]? =some x){j:Nat}{u:Value}(hj:j<sz α)(hy:enc y=(enc x).set j u):
  RowAt (w.setCell ⟨g,off+(i*sz α+j),none⟩ u) e (.slice (some ⟨g,off,none⟩) n cap) (xs.set i y):=by
 have Q:=(zge hx).1;rcases h with⟨h,_⟩|⟨T,H,K,D,hv,M,P,O,N,J⟩
 .cases h
 .cases hv
  have S:off+(i*sz α+sz α)<=D.size:=by
   have:(i+1)*sz α<=cap*sz α:=Nat.mul_le_mul_right _ (by omega);rw[Nat.add_mul]at this;omega
  refine .inr ⟨g,off,cap,D.setIfInBounds (off+(i*sz α+j)) u,by simp,by simp[World.setCell,zni,M],by simpa using P,O,by simpa using N,fun m v hm=> ?_⟩;have C:=(zge hm).1;rw[Go.Own.ybu,List.length_set]at C;have L:0<sz α:=by omega
  have I:=Nat.div_add_mod m (sz α);have A:=Nat.mod_lt m L;generalize hq:m/sz α=q at I;generalize hr:m%sz α=r at I A;have B:q<xs.length:=by rw[<-hq];exact Nat.div_lt_of_lt_mul (by rw[Nat.mul_comm];exact C)
  have F:m=q*sz α+r:=by rw[Nat.mul_comm];omega
  subst F;by_cases hqi:q=i
  .subst hqi
   rw[ybg _ q r y (by simp[B]) A,hy]at hm;by_cases hrj:r=j
   .subst hrj
    rw[List.getElem?_set_self (by rw[Cells.len];exact A)]at hm;cases hm;rw[Array.getElem?_setIfInBounds_self_of_lt (by omega)]
   .rw[List.getElem?_set_ne (fun e=>hrj e.symm)]at hm
    rw[Array.getElem?_setIfInBounds_ne (by omega)];exact J _ v (by rw[ybg _ q r x hx A];exact hm)
  .rw[ybg _ q r xs[q] (by rw[List.getElem?_set_ne (fun e=>hqi e.symm)];simp[B]) A]at hm
   rw[Array.getElem?_setIfInBounds_ne ?_]
   .exact J _ v (by rw[ybg _ q r xs[q] (by simp[B]) A];exact hm)
   .intro R
    rcases Nat.lt_or_gt_of_ne hqi with E|G
    .have:(q+1)*sz α<=i*sz α:=Nat.mul_le_mul_right _ E
     rw[Nat.add_mul]at this;omega
    .have:(i+1)*sz α<=q*sz α:=Nat.mul_le_mul_right _ G
     rw[Nat.add_mul]at this;omega
def IM (ν:Type)(ve:ν->Value):MapTy Int ν:=⟨fun n=>.int .i64 n,ve,fun a b h=>by simpa using h⟩
theorem IM.klaw {ν:Type}{ve:ν->Value}{P:Program}{k:TypeId}(hd:P.underlying k=some (.int .i64))
  (check:∀(W:World) (em:Bool) (x:Int),(Instr.checkKey em 10000 k (.int .i64 x)).run P W= .ok () W):KLaw (IM ν ve) P k:=
 KLaw.of_now hd check (fun x y=>by simp[IM,Instr.sameNow];rfl) (fun x=>by simp[IM,Instr.sameBits])
end Go.Own
namespace Go.Va
open Go.Own Go.RowKit
inductive Val where
 |mk (kind n:Int) (s:ByteArray) (l:List Val)
namespace Val
def kind:Val->Int|mk k _ _ _=>k
def num:Val->Int|mk _ n _ _=>n
def txt:Val->ByteArray|mk _ _ s _=>s
def list:Val->List Val|mk _ _ _ l=>l
end Val
def Val.parts:Val->Nat
 | .mk _ _ _ l=>1+partsL l
where partsL:List Val->Nat
 |[]=>0
 |x::r=>x.parts+partsL r
theorem Val.parts_pos (v:Val):0<v.parts:=by cases v;unfold Val.parts;omega
theorem Val.partsL_mem {x:Val}:∀{l:List Val},x∈l->x.parts<=Val.parts.partsL l
 |[],h=>by cases h
 |y::r,h=>by
  unfold Val.parts.partsL;rcases List.mem_cons.1 h with rfl|h
  .omega
  .have:=partsL_mem h;omega
theorem Val.parts_lt {v x:Val}(h:x∈v.list):x.parts<v.parts:=by
 cases v with
 |mk k n s l=>
  have:=Val.partsL_mem (show x∈l from h);have e:(Val.mk k n s l).parts=1+Val.parts.partsL l:=by rw[Val.parts]
  omega
structure VC where
 kind:Int
 n:Int
 s:ByteArray
 la:Option Addr
 ln:Nat
 lc:Nat
def yn9 (c:VC):List Value:=[.int .i64 c.kind,.int .i64 c.n,.string c.s,.slice c.la c.ln c.lc]
instance:Cells VC where
 sz:=4
 enc:=yn9
 len:=fun _=>rfl
 one:=by
  intro x v hv;simp[yn9]at hv;rcases hv with rfl|rfl|rfl|rfl<;>rfl
open Cells (sz enc)
def Rd {α:Type}[Cells α](w:World)(v:Value)(xs:List α):Prop:=
 ∃a cap,v= .slice a xs.length cap/\xs.length<=cap/\cap<=maxLen/\∀i x,xs[i]? =some x->∃g off,a=some ⟨g,off,none⟩/\g<w.heap.size/\∀j u,(enc x)[j]? =some u->w.cell? ⟨g,off+(i*sz α+j),none⟩=some u
inductive VAt (w:World):Value->List Val->Prop
 |mk (v:Value) (cs:List VC) (l:List Val) (hr:Rd w v cs) (hl:cs.length=l.length) (h:∀(i:Nat) (c:VC) (x:Val),cs[i]? =some c->l[i]? =some x->c.kind=x.kind/\c.n=x.num/\c.s=x.txt)
   (hv:∀(i:Nat) (c:VC) (x:Val),cs[i]? =some c->l[i]? =some x->VAt w (.slice c.la c.ln c.lc) x.list):VAt w v l
structure VCAt (w:World)(c:VC)(x:Val):Prop where
 kind:c.kind=x.kind
 n:c.n=x.num
 s:c.s=x.txt
 l:VAt w (.slice c.la c.ln c.lc) x.list
end Go.Va
namespace Go.Va
structure Inf where
 name:ByteArray
 operand:Int
 i:Int
 o:Int
 blocks:Bool
 ends:Bool
 flow:Bool
def Inf.cells (x:Inf):Array Value:=#[.string x.name,.int .i64 x.operand,.int .i64 x.i,.int .i64 x.o,.bool x.blocks,.bool x.ends,.bool x.flow]
def ycG (op:Int):Inf×Bool:=
 bif op==17 then(⟨⟨#[116,105,109,101,114]⟩,0,1,1,false,false,false⟩,true)else
 bif op==18 then(⟨⟨#[119,97,105,116]⟩,0,1,1,true,false,false⟩,true)else
 bif op==19 then(⟨⟨#[99,97,110,99,101,108]⟩,0,1,1,false,false,false⟩,true)else
 bif op==20 then(⟨⟨#[99,97,108,108]⟩,2,2,1,false,false,false⟩,true)else
 bif op==21 then(⟨⟨#[106,111,105,110]⟩,0,1,2,true,false,false⟩,true)else
 bif op==22 then(⟨⟨#[115,105,103,110,97,108]⟩,2,0,1,true,false,false⟩,true)else
 bif op==23 then(⟨⟨#[112,111,108,108]⟩,2,0,2,false,false,false⟩,true)else
 bif op==24 then(⟨⟨#[97,115,107,101,100]⟩,0,0,1,false,false,false⟩,true)else
 bif op==25 then(⟨⟨#[114,101,116,117,114,110]⟩,0,1,0,false,true,false⟩,true)else
 bif op==26 then(⟨⟨#[102,97,105,108]⟩,2,0,0,false,true,false⟩,true)else
 bif op==27 then(⟨⟨#[97,103,97,105,110]⟩,0,1,0,false,true,false⟩,true)else
 bif op==28 then(⟨⟨#[101,105,116,104,101,114]⟩,2,1,2,true,false,false⟩,true)else
 bif op==29 then(⟨⟨#[112,97,99,107]⟩,5,0,1,false,false,false⟩,true)else
 bif op==30 then(⟨⟨#[105,116,101,109]⟩,0,2,1,false,false,false⟩,true)else
 bif op==31 then(⟨⟨#[115,105,122,101]⟩,0,1,1,false,false,false⟩,true)else
 bif op==32 then(⟨⟨#[99,97,116]⟩,0,2,1,false,false,false⟩,true)else
 (⟨⟨#[]⟩,0,0,0,false,false,false⟩,false)
def ofL (op:Int):Inf×Bool:=
 bif op==0 then(⟨⟨#[110,111,112]⟩,0,0,0,false,false,false⟩,true)else
 bif op==1 then(⟨⟨#[112,117,115,104]⟩,1,0,1,false,false,false⟩,true)else
 bif op==2 then(⟨⟨#[112,111,112]⟩,0,1,0,false,false,false⟩,true)else
 bif op==3 then(⟨⟨#[100,117,112]⟩,0,1,2,false,false,false⟩,true)else
 bif op==4 then(⟨⟨#[115,119,97,112]⟩,0,2,2,false,false,false⟩,true)else
 bif op==5 then(⟨⟨#[97,100,100]⟩,0,2,1,false,false,false⟩,true)else
 bif op==6 then(⟨⟨#[115,117,98]⟩,0,2,1,false,false,false⟩,true)else
 bif op==7 then(⟨⟨#[109,117,108]⟩,0,2,1,false,false,false⟩,true)else
 bif op==8 then(⟨⟨#[115,97,109,101]⟩,0,2,1,false,false,false⟩,true)else
 bif op==9 then(⟨⟨#[108,101,115,115]⟩,0,2,1,false,false,false⟩,true)else
 bif op==10 then(⟨⟨#[110,111,116]⟩,0,1,1,false,false,false⟩,true)else
 bif op==11 then(⟨⟨#[106,117,109,112]⟩,4,0,0,false,false,true⟩,true)else
 bif op==12 then(⟨⟨#[117,110,108,101,115,115]⟩,4,1,0,false,false,true⟩,true)else
 bif op==13 then(⟨⟨#[108,111,97,100]⟩,3,0,1,false,false,false⟩,true)else
 bif op==14 then(⟨⟨#[115,116,111,114,101]⟩,3,1,0,false,false,false⟩,true)else
 bif op==15 then(⟨⟨#[105,110,112,117,116]⟩,0,0,1,false,false,false⟩,true)else
 bif op==16 then(⟨⟨#[110,111,119]⟩,0,0,1,false,false,false⟩,true)else
 ycG op
end Go.Va
namespace Go.Proofs.YtpagmlndgblhhaaGreatDoor
open Go.RowKit Go.Own Go.Own.MapTy Go.Va
open Go.Own.Cells (sz enc)
set_option maxHeartbeats 4000000 in
theorem yjN (op:Int)(w:World):Calls Tryz.prog 127 #[op] w fun e w'=>e= .returned (.tuple #[.agg (ycG op).1.cells,.bool (ycG op).2])/\Below w w w':=by
 go_in;go_wp2_with fail
 all_goals
  refine zng (v:=.tuple #[.agg (ycG op).1.cells,.bool (ycG op).2]) ?_ rfl ⟨rfl,zal⟩;simp only[ycG, *,znm,znl,Inf.cells];simp only[results,Tryz.results127];go_simp
set_option maxHeartbeats 4000000 in
theorem yge (op:Int)(w:World):Calls Tryz.prog 92 #[op] w fun e w'=>e= .returned (.tuple #[.agg (ofL op).1.cells,.bool (ofL op).2])/\Below w w w':=by
 go_in;go_wp2_with fail
 all_goals try
  refine zng (v:=.tuple #[.agg (ofL op).1.cells,.bool (ofL op).2]) ?_ rfl ⟨rfl,zal⟩;simp only[ofL, *,znm,znl,Inf.cells];simp only[results,Tryz.results92];go_simp
 have e:ofL op=ycG op:=by simp only[ofL, *,znl]
 refine(yjN op _).mono ?_;rintro e C ⟨rfl,D⟩;generalize hp:ycG op=p at*;obtain⟨x,b⟩:=p;have A:C.heap[w.heap.size]? =some (.cells #[.string .empty,.int .i64 0,.int .i64 0,.int .i64 0,.bool false,.bool false,.bool false] 169):=by
  refine((zkb D).block (S:=fun _=>False) w.heap.size (by simp) (fun f=>f)).trans (World.alloc_heap_new _ _)
 have c0:=zca A 0 rfl;have c1:=zca A 1 rfl;have c2:=zca A 2 rfl;have c3:=zca A 3 rfl;have H:=zca A 4 rfl;have G:=zca A 5 rfl;have F:=zca A 6 rfl;have E:∀o,C.frozen? ⟨w,o,none⟩=false:=fun o=>zfr A o;simp only[Inf.cells];clear A;go_wp2_with fail;refine zng (v:=.tuple #[.agg (ofL op).1.cells,.bool (ofL op).2]) ?_ rfl ⟨rfl,?_⟩
 .rw[e]
  simp only[results,Tryz.results92,Inf.cells];go_simp
 .have B:=((znv w.heap.size w).alloc (znc _) _).trans (D.mono (by simp))
  exact((((((B.setCell (znc _) _).setCell (znc _) _).setCell (znc _) _).setCell (znc _) _).setCell (znc _) _).setCell (znc _) _).setCell (znc _) _
def ych (name:ByteArray):Nat->Nat->Option Nat
 |0,_=>none
 |n+1,k=>bif (ofL k).2&&(ofL k).1.name.data.toList==name.data.toList then some k else ych name n (k+1)
def yeT (name:ByteArray):Option Nat:=ych name 33 0
def ykL (r:Option Nat):Value:=.tuple #[.int .i64 (r.getD 0:Nat),r.isSome]
set_option maxHeartbeats 4000000 in
theorem ykK (name:ByteArray)(w:World):Calls Tryz.prog 91 #[name] w fun e w'=>e= .returned (ykL (yeT name))/\Below w w w':=by
 go_in;go_wp2_with fail
 go_loopw [7] (fun v7 wr=>∃k:Nat,v7= .int .i64 k/\k<=33/\Below w w wr/\ych name (33 - k) k=yeT name) (fun v7 _=>33 - (intOf v7).toNat)
 case atStart=>exact⟨0,rfl,znq _,znv _ _,rfl⟩
 case round=>
  obtain⟨k,rfl,hk,C,F⟩:=hrel;by_cases hkn:k<33
  .have K:((k:Int)<33):=by omega
   have I:=zhd (yge k wr);have B:=zh2 C F;clear C F;go_wp2_with fail;refine I.o.mono ?_;rintro e J ⟨rfl,E⟩;have G:=zhd E;clear E;generalize hp:ofL k=p;obtain⟨x,b⟩:=p;simp only[Inf.cells];have A:ych name (33 - k) k=bif b&&x.name.toList==name.toList then some k else ych name (33 - (k+1)) (k+1):=by
    have H:33 - k=(33 - (k+1))+1:=by omega
    rw[H,ych,hp,zml,zml]
   have A:=zhd A;clear hp;cases b<;>cases hn:x.name.toList==name.toList
   all_goals go_wp2_with fail
   all_goals have C:=G.o.mono B.o.1.size
   all_goals have D:=(B.o.1.trans C).alloc (znf B.o.1.size G.o.size) (.cells #[x.name,x.operand,x.i,x.o,x.blocks,x.ends,x.flow] 169)
   all_goals try
    refine⟨⟨k+1,by simp,by omega,D,?_⟩,by simp[intOf];omega⟩;rw[<-B.o.2,A.o,hn];rfl
   refine zng (v:=ykL (yeT name)) ?_ rfl ⟨rfl,D⟩;rw[<-B.o.2,A.o,hn];simp only[results,Tryz.results91,ykL];go_simp
  .obtain rfl:k=33:=by omega
   have B:=zh2 C F;clear C F;go_wp2_with fail;refine zng (v:=ykL (yeT name)) ?_ rfl ⟨rfl,B.o.1⟩;rw[<-B.o.2,show 33 - 33=0 from rfl,ych];simp only[results,Tryz.results91,ykL];go_simp
end Go.Proofs.YtpagmlndgblhhaaGreatDoor
namespace Go.Proofs
open Go.Shelf
def Tryz.lays106_ren:Go.Shelf.Ren:=⟨fun|106=>111|213=>140|265=>165|n=>n,fun|9=>9|3=>3|n=>n,fun|n=>n⟩
theorem Tryz.lays106:Go.Proofs.Lays.n106 Tryz.prog Tryz.lays106_ren:={
 mixed:=by kernel_rfl
 f106:=Tryz.func111.trans (congrArg some (by kernel_rfl))
 f213:=Tryz.func140.trans (congrArg some (by kernel_rfl))
 f265:=Tryz.func165.trans (congrArg some (by kernel_rfl))
 t3:=Tryz.underlying3
 a3:=Tryz.isAgg3
 z3:=Tryz.sizeOf3
 v3:=Tryz.zeroValue3
 t9:=Tryz.underlying9
 a9:=Tryz.isAgg9
 z9:=Tryz.sizeOf9
 v9:=Tryz.zeroValue9}
def Tryz.lays137_ren:Go.Shelf.Ren:=⟨fun|137=>98|217=>137|266=>155|n=>n,fun|9=>9|5=>5|3=>3|n=>n,fun|n=>n⟩
theorem Tryz.lays137:Go.Proofs.Lays.n137 Tryz.prog Tryz.lays137_ren:={
 mixed:=by kernel_rfl
 f137:=Tryz.func98.trans (congrArg some (by kernel_rfl))
 f217:=Tryz.func137.trans (congrArg some (by kernel_rfl))
 f266:=Tryz.func155.trans (congrArg some (by kernel_rfl))
 t3:=Tryz.underlying3
 a3:=Tryz.isAgg3
 z3:=Tryz.sizeOf3
 v3:=Tryz.zeroValue3
 t5:=Tryz.underlying5
 a5:=Tryz.isAgg5
 z5:=Tryz.sizeOf5
 v5:=Tryz.zeroValue5
 t9:=Tryz.underlying9
 a9:=Tryz.isAgg9
 z9:=Tryz.sizeOf9
 v9:=Tryz.zeroValue9}
def Tryz.lays103_ren:Go.Shelf.Ren:=⟨fun|103=>89|210=>125|206=>150|n=>n,fun|9=>9|4=>4|24=>98|3=>3|n=>n,fun|n=>n⟩
theorem Tryz.lays103:Go.Proofs.Lays.n103 Tryz.prog Tryz.lays103_ren:={
 mixed:=by kernel_rfl
 f103:=Tryz.func89.trans (congrArg some (by kernel_rfl))
 f206:=Tryz.func150.trans (congrArg some (by kernel_rfl))
 f210:=Tryz.func125.trans (congrArg some (by kernel_rfl))
 t3:=Tryz.underlying3
 a3:=Tryz.isAgg3
 z3:=Tryz.sizeOf3
 v3:=Tryz.zeroValue3
 t4:=Tryz.underlying4
 a4:=Tryz.isAgg4
 z4:=Tryz.sizeOf4
 v4:=Tryz.zeroValue4
 t9:=Tryz.underlying9
 a9:=Tryz.isAgg9
 z9:=Tryz.sizeOf9
 v9:=Tryz.zeroValue9
 t24:=Tryz.underlying98
 a24:=Tryz.isAgg98
 z24:=Tryz.sizeOf98
 v24:=Tryz.zeroValue98}
def Tryz.lays104_ren:Go.Shelf.Ren:=⟨fun|104=>45|211=>86|207=>121|n=>n,fun|9=>9|4=>4|24=>98|3=>3|n=>n,fun|n=>n⟩
theorem Tryz.lays104:Go.Proofs.Lays.n104 Tryz.prog Tryz.lays104_ren:={
 mixed:=by kernel_rfl
 f104:=Tryz.func45.trans (congrArg some (by kernel_rfl))
 f207:=Tryz.func121.trans (congrArg some (by kernel_rfl))
 f211:=Tryz.func86.trans (congrArg some (by kernel_rfl))
 t3:=Tryz.underlying3
 a3:=Tryz.isAgg3
 z3:=Tryz.sizeOf3
 v3:=Tryz.zeroValue3
 t4:=Tryz.underlying4
 a4:=Tryz.isAgg4
 z4:=Tryz.sizeOf4
 v4:=Tryz.zeroValue4
 t9:=Tryz.underlying9
 a9:=Tryz.isAgg9
 z9:=Tryz.sizeOf9
 v9:=Tryz.zeroValue9
 t24:=Tryz.underlying98
 a24:=Tryz.isAgg98
 z24:=Tryz.sizeOf98
 v24:=Tryz.zeroValue98}
def Tryz.lays99_ren:Go.Shelf.Ren:=⟨fun|99=>170|206=>150|n=>n,fun|9=>9|4=>4|3=>3|n=>n,fun|n=>n⟩
theorem Tryz.lays99:Go.Proofs.Lays.n99 Tryz.prog Tryz.lays99_ren:={
 mixed:=by kernel_rfl
 f99:=Tryz.func170.trans (congrArg some (by kernel_rfl))
 f206:=Tryz.func150.trans (congrArg some (by kernel_rfl))
 t3:=Tryz.underlying3
 a3:=Tryz.isAgg3
 z3:=Tryz.sizeOf3
 v3:=Tryz.zeroValue3
 t4:=Tryz.underlying4
 a4:=Tryz.isAgg4
 z4:=Tryz.sizeOf4
 v4:=Tryz.zeroValue4
 t9:=Tryz.underlying9
 a9:=Tryz.isAgg9
 z9:=Tryz.sizeOf9
 v9:=Tryz.zeroValue9}
def Tryz.lays145_ren:Go.Shelf.Ren:=⟨fun|145=>90|220=>126|219=>149|217=>137|225=>167|224=>168|267=>169|266=>155|314=>183|n=>n,fun|9=>9|4=>4|59=>165|3=>3|5=>5|46=>219|146=>273|51=>229|n=>n,fun|1=>0|n=>n⟩
theorem Tryz.lays145:Go.Proofs.Lays.n145 Tryz.prog Tryz.lays145_ren:={
 mixed:=by kernel_rfl
 f145:=Tryz.func90.trans (congrArg some (by kernel_rfl))
 f217:=Tryz.func137.trans (congrArg some (by kernel_rfl))
 f219:=Tryz.func149.trans (congrArg some (by kernel_rfl))
 f220:=Tryz.func126.trans (congrArg some (by kernel_rfl))
 f224:=Tryz.func168.trans (congrArg some (by kernel_rfl))
 f225:=Tryz.func167.trans (congrArg some (by kernel_rfl))
 f266:=Tryz.func155.trans (congrArg some (by kernel_rfl))
 f267:=Tryz.func169.trans (congrArg some (by kernel_rfl))
 f314:=Tryz.func183.trans (congrArg some (by kernel_rfl))
 t3:=Tryz.underlying3
 a3:=Tryz.isAgg3
 z3:=Tryz.sizeOf3
 v3:=Tryz.zeroValue3
 t4:=Tryz.underlying4
 a4:=Tryz.isAgg4
 z4:=Tryz.sizeOf4
 v4:=Tryz.zeroValue4
 t5:=Tryz.underlying5
 a5:=Tryz.isAgg5
 z5:=Tryz.sizeOf5
 v5:=Tryz.zeroValue5
 t9:=Tryz.underlying9
 a9:=Tryz.isAgg9
 z9:=Tryz.sizeOf9
 v9:=Tryz.zeroValue9
 t46:=Tryz.underlying219
 a46:=Tryz.isAgg219
 z46:=Tryz.sizeOf219
 v46:=Tryz.zeroValue219
 t51:=Tryz.underlying229
 a51:=Tryz.isAgg229
 z51:=Tryz.sizeOf229
 v51:=Tryz.zeroValue229
 t59:=Tryz.underlying165
 a59:=Tryz.isAgg165
 z59:=Tryz.sizeOf165
 v59:=Tryz.zeroValue165
 t146:=Tryz.underlying273
 a146:=Tryz.isAgg273
 z146:=Tryz.sizeOf273
 v146:=Tryz.zeroValue273
 g1:=by kernel_rfl}
def Tryz.lays146_ren:Go.Shelf.Ren:=⟨fun|146=>46|221=>87|268=>122|138=>123|143=>124|195=>146|197=>147|218=>148|219=>149|260=>166|217=>137|225=>167|224=>168|267=>169|266=>155|314=>183|n=>n,fun|9=>9|31=>26|3=>3|4=>4|0=>0|105=>243|21=>21|5=>5|46=>219|119=>269|139=>272|138=>271|146=>273|51=>229|n=>n,fun|1=>0|3=>1|4=>2|n=>n⟩
theorem Tryz.lays146:Go.Proofs.Lays.n146 Tryz.prog Tryz.lays146_ren:={
 mixed:=by kernel_rfl
 f138:=Tryz.func123.trans (congrArg some (by kernel_rfl))
 f143:=Tryz.func124.trans (congrArg some (by kernel_rfl))
 f146:=Tryz.func46.trans (congrArg some (by kernel_rfl))
 f195:=Tryz.func146.trans (congrArg some (by kernel_rfl))
 f197:=Tryz.func147.trans (congrArg some (by kernel_rfl))
 f217:=Tryz.func137.trans (congrArg some (by kernel_rfl))
 f218:=Tryz.func148.trans (congrArg some (by kernel_rfl))
 f219:=Tryz.func149.trans (congrArg some (by kernel_rfl))
 f221:=Tryz.func87.trans (congrArg some (by kernel_rfl))
 f224:=Tryz.func168.trans (congrArg some (by kernel_rfl))
 f225:=Tryz.func167.trans (congrArg some (by kernel_rfl))
 f260:=Tryz.func166.trans (congrArg some (by kernel_rfl))
 f266:=Tryz.func155.trans (congrArg some (by kernel_rfl))
 f267:=Tryz.func169.trans (congrArg some (by kernel_rfl))
 f268:=Tryz.func122.trans (congrArg some (by kernel_rfl))
 f314:=Tryz.func183.trans (congrArg some (by kernel_rfl))
 t0:=Tryz.underlying0
 a0:=Tryz.isAgg0
 z0:=Tryz.sizeOf0
 v0:=Tryz.zeroValue0
 t3:=Tryz.underlying3
 a3:=Tryz.isAgg3
 z3:=Tryz.sizeOf3
 v3:=Tryz.zeroValue3
 t4:=Tryz.underlying4
 a4:=Tryz.isAgg4
 z4:=Tryz.sizeOf4
 v4:=Tryz.zeroValue4
 t5:=Tryz.underlying5
 a5:=Tryz.isAgg5
 z5:=Tryz.sizeOf5
 v5:=Tryz.zeroValue5
 t9:=Tryz.underlying9
 a9:=Tryz.isAgg9
 z9:=Tryz.sizeOf9
 v9:=Tryz.zeroValue9
 t21:=Tryz.underlying21
 a21:=Tryz.isAgg21
 z21:=Tryz.sizeOf21
 v21:=Tryz.zeroValue21
 t31:=Tryz.underlying26
 a31:=Tryz.isAgg26
 z31:=Tryz.sizeOf26
 v31:=Tryz.zeroValue26
 t46:=Tryz.underlying219
 a46:=Tryz.isAgg219
 z46:=Tryz.sizeOf219
 v46:=Tryz.zeroValue219
 t51:=Tryz.underlying229
 a51:=Tryz.isAgg229
 z51:=Tryz.sizeOf229
 v51:=Tryz.zeroValue229
 t105:=Tryz.underlying243
 a105:=Tryz.isAgg243
 z105:=Tryz.sizeOf243
 v105:=Tryz.zeroValue243
 t119:=Tryz.underlying269
 a119:=Tryz.isAgg269
 z119:=Tryz.sizeOf269
 t138:=Tryz.underlying271
 a138:=Tryz.isAgg271
 z138:=Tryz.sizeOf271
 v138:=Tryz.zeroValue271
 t139:=Tryz.underlying272
 a139:=Tryz.isAgg272
 z139:=Tryz.sizeOf272
 v139:=Tryz.zeroValue272
 t146:=Tryz.underlying273
 a146:=Tryz.isAgg273
 z146:=Tryz.sizeOf273
 v146:=Tryz.zeroValue273
 g1:=by kernel_rfl
 g3:=by kernel_rfl
 g4:=by kernel_rfl}
def Tryz.laysM173_ren:Go.Shelf.Ren:=⟨fun|173=>186|246=>192|283=>196|284=>197|285=>198|286=>199|129=>203|317=>202|318=>204|319=>205|320=>206|337=>207|338=>208|n=>n,fun|2=>2|3=>3|9=>9|4=>4|171=>288|0=>0|53=>188|37=>55|5=>5|173=>291|212=>298|51=>229|20=>20|213=>299|46=>219|232=>238|233=>302|n=>n,fun|17=>5|18=>6|19=>7|n=>n⟩
theorem Tryz.laysM173:Go.Proofs.LaysM.n173 Tryz.prog Tryz.laysM173_ren:={
 mixed:=by kernel_rfl
 f129:=Tryz.func203.trans (congrArg some (by kernel_rfl))
 f173:=Tryz.func186.trans (congrArg some (by kernel_rfl))
 f246:=Tryz.func192.trans (congrArg some (by kernel_rfl))
 f283:=Tryz.func196.trans (congrArg some (by kernel_rfl))
 f284:=Tryz.func197.trans (congrArg some (by kernel_rfl))
 f285:=Tryz.func198.trans (congrArg some (by kernel_rfl))
 f286:=Tryz.func199.trans (congrArg some (by kernel_rfl))
 f317:=Tryz.func202.trans (congrArg some (by kernel_rfl))
 f318:=Tryz.func204.trans (congrArg some (by kernel_rfl))
 f319:=Tryz.func205.trans (congrArg some (by kernel_rfl))
 f320:=Tryz.func206.trans (congrArg some (by kernel_rfl))
 f337:=Tryz.func207.trans (congrArg some (by kernel_rfl))
 f338:=Tryz.func208.trans (congrArg some (by kernel_rfl))
 t0:=Tryz.underlying0
 a0:=Tryz.isAgg0
 z0:=Tryz.sizeOf0
 v0:=Tryz.zeroValue0
 t2:=Tryz.underlying2
 a2:=Tryz.isAgg2
 z2:=Tryz.sizeOf2
 v2:=Tryz.zeroValue2
 t3:=Tryz.underlying3
 a3:=Tryz.isAgg3
 z3:=Tryz.sizeOf3
 v3:=Tryz.zeroValue3
 t4:=Tryz.underlying4
 a4:=Tryz.isAgg4
 z4:=Tryz.sizeOf4
 v4:=Tryz.zeroValue4
 t5:=Tryz.underlying5
 a5:=Tryz.isAgg5
 z5:=Tryz.sizeOf5
 v5:=Tryz.zeroValue5
 t9:=Tryz.underlying9
 a9:=Tryz.isAgg9
 z9:=Tryz.sizeOf9
 v9:=Tryz.zeroValue9
 t20:=Tryz.underlying20
 a20:=Tryz.isAgg20
 z20:=Tryz.sizeOf20
 v20:=Tryz.zeroValue20
 t37:=Tryz.underlying55
 a37:=Tryz.isAgg55
 z37:=Tryz.sizeOf55
 v37:=Tryz.zeroValue55
 t46:=Tryz.underlying219
 a46:=Tryz.isAgg219
 z46:=Tryz.sizeOf219
 v46:=Tryz.zeroValue219
 t51:=Tryz.underlying229
 a51:=Tryz.isAgg229
 z51:=Tryz.sizeOf229
 v51:=Tryz.zeroValue229
 t53:=Tryz.underlying188
 a53:=Tryz.isAgg188
 z53:=Tryz.sizeOf188
 v53:=Tryz.zeroValue188
 t171:=Tryz.underlying288
 a171:=Tryz.isAgg288
 z171:=Tryz.sizeOf288
 v171:=Tryz.zeroValue288
 t173:=Tryz.underlying291
 a173:=Tryz.isAgg291
 z173:=Tryz.sizeOf291
 v173:=Tryz.zeroValue291
 t212:=Tryz.underlying298
 a212:=Tryz.isAgg298
 z212:=Tryz.sizeOf298
 v212:=Tryz.zeroValue298
 t213:=Tryz.underlying299
 a213:=Tryz.isAgg299
 z213:=Tryz.sizeOf299
 t232:=Tryz.underlying238
 a232:=Tryz.isAgg238
 z232:=Tryz.sizeOf238
 v232:=Tryz.zeroValue238
 t233:=Tryz.underlying302
 a233:=Tryz.isAgg302
 z233:=Tryz.sizeOf302
 v233:=Tryz.zeroValue302
 g17:=by kernel_rfl
 g18:=by kernel_rfl
 g19:=by kernel_rfl
 i0:=by kernel_rfl
 i2:=by kernel_rfl
 i3:=by kernel_rfl
 i4:=by kernel_rfl
 i5:=by kernel_rfl
 i9:=by kernel_rfl
 i20:=by kernel_rfl
 i37:=by kernel_rfl
 i46:=by kernel_rfl
 i51:=by kernel_rfl
 i53:=by kernel_rfl
 i171:=by kernel_rfl
 i173:=by kernel_rfl
 i212:=by kernel_rfl
 i232:=by kernel_rfl
 i233:=by kernel_rfl
 m17:=by kernel_rfl
 m18:=by kernel_rfl
 m19:=by kernel_rfl}
def Tryz.laysC174_ren:Go.Shelf.Ren:=⟨fun|174=>185|247=>187|245=>175|287=>193|279=>188|280=>189|281=>190|282=>191|321=>200|322=>201|316=>194|171=>153|205=>195|243=>176|246=>192|283=>196|284=>197|285=>198|286=>199|129=>203|317=>202|318=>204|319=>205|320=>206|337=>207|338=>208|n=>n,fun|9=>9|3=>3|2=>2|75=>250|85=>276|4=>4|167=>279|5=>5|53=>188|175=>283|46=>219|168=>280|37=>55|0=>0|210=>286|21=>21|127=>294|145=>297|143=>295|171=>288|173=>291|212=>298|51=>229|20=>20|213=>299|232=>238|233=>302|80=>224|n=>n,fun|15=>3|16=>4|17=>5|18=>6|19=>7|n=>n⟩
theorem Tryz.laysC174:Go.Proofs.LaysC.n174 Tryz.prog Tryz.laysC174_ren:={
 mixed:=by kernel_rfl
 f129:=Tryz.func203.trans (congrArg some (by kernel_rfl))
 f171:=Tryz.func153.trans (congrArg some (by kernel_rfl))
 f174:=Tryz.func185.trans (congrArg some (by kernel_rfl))
 f205:=Tryz.func195.trans (congrArg some (by kernel_rfl))
 f243:=Tryz.func176.trans (congrArg some (by kernel_rfl))
 f245:=Tryz.func175.trans (congrArg some (by kernel_rfl))
 f246:=Tryz.func192.trans (congrArg some (by kernel_rfl))
 f247:=Tryz.func187.trans (congrArg some (by kernel_rfl))
 f279:=Tryz.func188.trans (congrArg some (by kernel_rfl))
 f280:=Tryz.func189.trans (congrArg some (by kernel_rfl))
 f281:=Tryz.func190.trans (congrArg some (by kernel_rfl))
 f282:=Tryz.func191.trans (congrArg some (by kernel_rfl))
 f283:=Tryz.func196.trans (congrArg some (by kernel_rfl))
 f284:=Tryz.func197.trans (congrArg some (by kernel_rfl))
 f285:=Tryz.func198.trans (congrArg some (by kernel_rfl))
 f286:=Tryz.func199.trans (congrArg some (by kernel_rfl))
 f287:=Tryz.func193.trans (congrArg some (by kernel_rfl))
 f316:=Tryz.func194.trans (congrArg some (by kernel_rfl))
 f317:=Tryz.func202.trans (congrArg some (by kernel_rfl))
 f318:=Tryz.func204.trans (congrArg some (by kernel_rfl))
 f319:=Tryz.func205.trans (congrArg some (by kernel_rfl))
 f320:=Tryz.func206.trans (congrArg some (by kernel_rfl))
 f321:=Tryz.func200.trans (congrArg some (by kernel_rfl))
 f322:=Tryz.func201.trans (congrArg some (by kernel_rfl))
 f337:=Tryz.func207.trans (congrArg some (by kernel_rfl))
 f338:=Tryz.func208.trans (congrArg some (by kernel_rfl))
 t0:=Tryz.underlying0
 a0:=Tryz.isAgg0
 z0:=Tryz.sizeOf0
 v0:=Tryz.zeroValue0
 t2:=Tryz.underlying2
 a2:=Tryz.isAgg2
 z2:=Tryz.sizeOf2
 v2:=Tryz.zeroValue2
 t3:=Tryz.underlying3
 a3:=Tryz.isAgg3
 z3:=Tryz.sizeOf3
 v3:=Tryz.zeroValue3
 t4:=Tryz.underlying4
 a4:=Tryz.isAgg4
 z4:=Tryz.sizeOf4
 v4:=Tryz.zeroValue4
 t5:=Tryz.underlying5
 a5:=Tryz.isAgg5
 z5:=Tryz.sizeOf5
 v5:=Tryz.zeroValue5
 t9:=Tryz.underlying9
 a9:=Tryz.isAgg9
 z9:=Tryz.sizeOf9
 v9:=Tryz.zeroValue9
 t20:=Tryz.underlying20
 a20:=Tryz.isAgg20
 z20:=Tryz.sizeOf20
 v20:=Tryz.zeroValue20
 t21:=Tryz.underlying21
 a21:=Tryz.isAgg21
 z21:=Tryz.sizeOf21
 v21:=Tryz.zeroValue21
 t37:=Tryz.underlying55
 a37:=Tryz.isAgg55
 z37:=Tryz.sizeOf55
 v37:=Tryz.zeroValue55
 t46:=Tryz.underlying219
 a46:=Tryz.isAgg219
 z46:=Tryz.sizeOf219
 v46:=Tryz.zeroValue219
 t51:=Tryz.underlying229
 a51:=Tryz.isAgg229
 z51:=Tryz.sizeOf229
 v51:=Tryz.zeroValue229
 t53:=Tryz.underlying188
 a53:=Tryz.isAgg188
 z53:=Tryz.sizeOf188
 v53:=Tryz.zeroValue188
 t75:=Tryz.underlying250
 a75:=Tryz.isAgg250
 z75:=Tryz.sizeOf250
 v75:=Tryz.zeroValue250
 t85:=Tryz.underlying276
 a85:=Tryz.isAgg276
 z85:=Tryz.sizeOf276
 v85:=Tryz.zeroValue276
 t127:=Tryz.underlying294
 a127:=Tryz.isAgg294
 z127:=Tryz.sizeOf294
 v127:=Tryz.zeroValue294
 t143:=Tryz.underlying295
 a143:=Tryz.isAgg295
 z143:=Tryz.sizeOf295
 v143:=Tryz.zeroValue295
 t145:=Tryz.underlying297
 a145:=Tryz.isAgg297
 z145:=Tryz.sizeOf297
 v145:=Tryz.zeroValue297
 t167:=Tryz.underlying279
 a167:=Tryz.isAgg279
 z167:=Tryz.sizeOf279
 v167:=Tryz.zeroValue279
 t168:=Tryz.underlying280
 a168:=Tryz.isAgg280
 z168:=Tryz.sizeOf280
 v168:=Tryz.zeroValue280
 t171:=Tryz.underlying288
 a171:=Tryz.isAgg288
 z171:=Tryz.sizeOf288
 v171:=Tryz.zeroValue288
 t173:=Tryz.underlying291
 a173:=Tryz.isAgg291
 z173:=Tryz.sizeOf291
 v173:=Tryz.zeroValue291
 t175:=Tryz.underlying283
 a175:=Tryz.isAgg283
 z175:=Tryz.sizeOf283
 v175:=Tryz.zeroValue283
 t210:=Tryz.underlying286
 a210:=Tryz.isAgg286
 z210:=Tryz.sizeOf286
 v210:=Tryz.zeroValue286
 t212:=Tryz.underlying298
 a212:=Tryz.isAgg298
 z212:=Tryz.sizeOf298
 v212:=Tryz.zeroValue298
 t213:=Tryz.underlying299
 a213:=Tryz.isAgg299
 z213:=Tryz.sizeOf299
 t232:=Tryz.underlying238
 a232:=Tryz.isAgg238
 z232:=Tryz.sizeOf238
 v232:=Tryz.zeroValue238
 t233:=Tryz.underlying302
 a233:=Tryz.isAgg302
 z233:=Tryz.sizeOf302
 v233:=Tryz.zeroValue302
 g15:=by kernel_rfl
 g16:=by kernel_rfl
 g17:=by kernel_rfl
 g18:=by kernel_rfl
 g19:=by kernel_rfl
 t80:=Tryz.underlying224
 a80:=Tryz.isAgg224
 z80:=Tryz.sizeOf224
 v80:=Tryz.zeroValue224
 i0:=by kernel_rfl
 i2:=by kernel_rfl
 i3:=by kernel_rfl
 i4:=by kernel_rfl
 i5:=by kernel_rfl
 i9:=by kernel_rfl
 i20:=by kernel_rfl
 i21:=by kernel_rfl
 i37:=by kernel_rfl
 i46:=by kernel_rfl
 i51:=by kernel_rfl
 i53:=by kernel_rfl
 i75:=by kernel_rfl
 i80:=by kernel_rfl
 i85:=by kernel_rfl
 i127:=by kernel_rfl
 i143:=by kernel_rfl
 i145:=by kernel_rfl
 i167:=by kernel_rfl
 i168:=by kernel_rfl
 i171:=by kernel_rfl
 i173:=by kernel_rfl
 i175:=by kernel_rfl
 i210:=by kernel_rfl
 i212:=by kernel_rfl
 i232:=by kernel_rfl
 i233:=by kernel_rfl
 m15:=by kernel_rfl
 m16:=by kernel_rfl
 m17:=by kernel_rfl
 m18:=by kernel_rfl
 m19:=by kernel_rfl
 c0:=by kernel_rfl
 c2:=by kernel_rfl
 c3:=by kernel_rfl
 c4:=by kernel_rfl
 c5:=by kernel_rfl
 c9:=by kernel_rfl
 c20:=by kernel_rfl
 c21:=by kernel_rfl
 c37:=by kernel_rfl
 c46:=by kernel_rfl
 c51:=by kernel_rfl
 c53:=by kernel_rfl
 c75:=by kernel_rfl
 c80:=by kernel_rfl
 c85:=by kernel_rfl
 c127:=by kernel_rfl
 c143:=by kernel_rfl
 c145:=by kernel_rfl
 c167:=by kernel_rfl
 c168:=by kernel_rfl
 c171:=by kernel_rfl
 c173:=by kernel_rfl
 c175:=by kernel_rfl
 c210:=by kernel_rfl
 c212:=by kernel_rfl
 c213:=by kernel_rfl
 c232:=by kernel_rfl
 c233:=by kernel_rfl}
end Go.Proofs
