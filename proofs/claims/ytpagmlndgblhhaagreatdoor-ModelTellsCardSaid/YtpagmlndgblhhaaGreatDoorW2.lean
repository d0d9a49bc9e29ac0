/- Parts of the proof: what the functions and the plain laws give that later parts lean on. Conditions: none beyond those that each theorem names. -/
import Derived.Shelf.Small.Strs
import Derived.Shelf.Small.Wraps
import Derived.Shelf.Strings.Prefix
import Derived.Lib.IndexLaws
import Derived.Laws.IdiomStrings
import Derived.Lib.LaidTab
import Derived.Lib.ParseIntB
import Derived.Lib.ItoaNum
import Derived.Shelf.Strconv.ErrVarAll
import Derived.Lib.SmallJoins
import Derived.Laws.OwnMore
import Derived.Lib.AppendStr
import Derived.Laws.Bits64
import Derived.Test.YtpagmlndgblhhaaGreatDoorW1
set_option maxRecDepth 100000
set_option maxHeartbeats 8000000
namespace Go.Va
def yqw (i:Nat)(c:UInt8):Bool:=decide ((97<=c.toNat/\c.toNat<=122)\/(0<i/\48<=c.toNat/\c.toNat<=57))
def ykx:Nat->List UInt8->Bool
 |_,[]=>true
 |i,c::r=>yqw i c&&ykx (i+1) r
def yqk (s:List UInt8):Bool:=ykx 0 s&&(1<=s.length&&s.length<=16)
def ypm (c:UInt8):Int:=Lib.indexByte [48,49,50,51,52,53,54,55,56,57,97,98,99,100,101,102] c
def yeu (s:List UInt8)(at_:Nat)(c:UInt8):Bool:=match s[at_]? with|some x=>x==c|none=>false
end Go.Va
namespace Go.Proofs.YtpagmlndgblhhaaGreatDoor
open Go.RowKit Go.Own Go.Own.MapTy Go.Va
open Go.Own.Cells (sz enc)
theorem yic (b:Bool)(w:World):Calls Tryz.prog 110 #[b] w fun e w'=>e= .returned (.int .i64 (bif b then -1 else 1))/\w'=w:=by
 go_in;cases b
 all_goals
  go_wp2;go_ret;exact⟨rfl,rfl⟩
def TX (w:World)(b:Nat)(s:ByteArray)(at_:Nat)(deep:Bool):Prop:=w.heap[b]? =some (.cells #[s,at_,deep] 246)
set_option maxHeartbeats 4000000 in
theorem yoK (b:Nat)(s:ByteArray)(at_:Nat)(deep:Bool)(c:UInt8)(w:World)(H:TX w b s at_ deep)(hn:yeu s.data.toList at_ c=false):
  Calls Tryz.prog 171 #[.pointer (some ⟨b,0,none⟩),.int .u8 c.toNat] w fun e w'=>e= .returned (.bool false)/\w'=w.drew:=by
 have E:b<w:=zlt H;have c0:=zca H 0 rfl;have c1:=zca H 1 rfl;clear H;go_in;by_cases h:at_<s.size
 .have C:(at_:Int)<s.size:=by omega
  have B:s.data.toList[at_]? =some s[at_]:=by simp[h];rfl
  rw[yeu,B]at hn;have A:(s[at_]==c)=false:=hn;have D:((s[at_].toNat:Int)==(c.toNat:Int))=false:=by
   rw[zna]at A|-;exact fun e=>A (UInt8.toNat_inj.1 (by omega))
  go_wp2_with fail;go_region;go_wp2;go_ret;exact⟨rfl,rfl⟩
 .have C:¬(at_:Int)<s.size:=by omega
  go_wp2_with fail;go_region;go_wp2;go_ret;exact⟨rfl,rfl⟩
set_option maxHeartbeats 4000000 in
theorem ynI (b:Nat)(s:ByteArray)(at_:Nat)(deep:Bool)(c:UInt8)(w:World)(H:TX w b s at_ deep)(hs:s.size<=4294967280)(h:at_<s.size)(hn:yeu s.data.toList at_ c=true):
  Calls Tryz.prog 171 #[.pointer (some ⟨b,0,none⟩),.int .u8 c.toNat] w fun e w'=>e= .returned (.bool true)/\w'=(w.setCell ⟨b,1,none⟩ (.int .i64 (at_+1))).drew:=by
 have G:b<w:=zlt H;have c0:=zca H 0 rfl;have c1:=zca H 1 rfl;have E:∀o,w.frozen? ⟨b,o,none⟩=false:=fun o=>zfr H o;clear H;go_in;have F:(at_:Int)<s.size:=by omega
 have B:s.data.toList[at_]? =some s[at_]:=by simp[h];rfl
 rw[yeu,B]at hn;have A:(s[at_]==c)=true:=hn;have D:((s[at_].toNat:Int)==(c.toNat:Int))=true:=by
  rw[beq_iff_eq]at A|-;rw[A]
 have C:wrap64 ((at_:Int)+1)=(at_:Int)+1:=by unfold wrap64;omega
 go_wp2_with fail;go_region;go_wp2;go_ret;exact⟨rfl,rfl⟩
theorem TX.move {w:World}{b:Nat}{s:ByteArray}{at_:Nat}{deep:Bool}(H:TX w b s at_ deep)(k:Nat):TX (w.setCell ⟨b,1,none⟩ (.int .i64 k)) b s k deep:=by
 unfold TX at H|-;simp[World.setCell,zni,H]
theorem TX.c0 {w:World}{b:Nat}{s:ByteArray}{at_:Nat}{deep:Bool}(H:TX w b s at_ deep):w.cell? ⟨b,0,none⟩=some (.string s):=by rw[zch H];rfl
theorem TX.c1 {w:World}{b:Nat}{s:ByteArray}{at_:Nat}{deep:Bool}(H:TX w b s at_ deep):w.cell? ⟨b,1,none⟩=some (.int .i64 at_):=by rw[zch H];rfl
theorem TX.c2 {w:World}{b:Nat}{s:ByteArray}{at_:Nat}{deep:Bool}(H:TX w b s at_ deep):w.cell? ⟨b,2,none⟩=some (.bool deep):=by rw[zch H];rfl
theorem TX.fr {w:World}{b:Nat}{s:ByteArray}{at_:Nat}{deep:Bool}(H:TX w b s at_ deep)(o:Nat):w.frozen? ⟨b,o,none⟩=false:=zfr H o
theorem TX.lt {w:World}{b:Nat}{s:ByteArray}{at_:Nat}{deep:Bool}(H:TX w b s at_ deep):b<w:=zlt H
theorem TX.drew {w:World}{b:Nat}{s:ByteArray}{at_:Nat}{deep:Bool}(H:TX w b s at_ deep):TX w.drew b s at_ deep:=H
theorem TX.keep {w w':World}{b:Nat}{s:ByteArray}{at_:Nat}{deep:Bool}{S:Nat->Prop}(H:TX w b s at_ deep)(K:Keeps S w w')(hs:¬S b):TX w' b s at_ deep:=(K.block b (zlt H) hs).trans H
end Go.Proofs.YtpagmlndgblhhaaGreatDoor
namespace Go.Va
open Go.Own Go.RowKit
instance:Cells UInt8 where
 sz:=1
 enc:=fun c=>[.int .u8 c.toNat]
 len:=fun _=>rfl
 one:=by
  intro x v hv;simp at hv;subst hv;rfl
def ypJ (a b:UInt8):Int:=(16*ypm a+ypm b)%256
def yoB (a b:UInt8):Bool:=decide (ypm a<0\/ypm b<0\/(32<=ypJ a b/\ypJ a b<=126))
def ykd (acc:List UInt8)(k:Nat):List UInt8->Option (List UInt8×Nat)
 |[]=>none
 |c::r=>
  if c.toNat=34 then some (acc,k+1)else
  if c.toNat<32\/126<c.toNat then none else
  if c.toNat≠92 then ykd (acc++[c]) (k+1) r else
  match r with
  |[]=>none
  |d::r1=>
   if d.toNat=34 then ykd (acc++[34]) (k+2) r1 else
   if d.toNat=92 then ykd (acc++[92]) (k+2) r1 else
   if d.toNat≠120 then none else
   match r1 with
   |a::b::r2=>if yoB a b then none else ykd (acc++[UInt8.ofNat (ypJ a b).toNat]) (k+4) r2
   |_=>none
end Go.Va
namespace Go.Va
open Go.Own Go.RowKit
open Cells (sz enc)
def RdF {α:Type}[Cells α](F:Nat->Prop)(w:World)(v:Value)(xs:List α):Prop:=
 ∃a cap,v= .slice a xs.length cap/\xs.length<=cap/\cap<=maxLen/\∀i x,xs[i]? =some x->∃g off,a=some ⟨g,off,none⟩/\F g/\g<w.heap.size/\∀j u,(enc x)[j]? =some u->w.cell? ⟨g,off+(i*sz α+j),none⟩=some u
section
variable{α:Type} [Cells α] {F G:Nat->Prop} {w w':World} {v:Value} {xs:List α}
theorem RdF.slice (h:RdF F w v xs):∃a cap,v= .slice a xs.length cap:=by obtain⟨a,cap,h,_⟩:=h;exact⟨a,cap,h⟩
theorem RdF.length_le (h:RdF F w v xs):xs.length<=maxLen:=by obtain⟨a,A,_,C,B,_⟩:=h;omega
theorem RdF.keep {S:Nat->Prop}(h:RdF F w v xs)(K:Keeps S w w')(hs:∀g,F g->¬S g):RdF F w' v xs:=by
 obtain⟨a,B,rfl,I,H,G⟩:=h;refine⟨a,B,rfl,I,H,fun i x hx=> ?_⟩;obtain⟨g,A,rfl,D,C,E⟩:=G i x hx;exact⟨g,A,rfl,D,znj C K.size,fun j u hu=>(K.cell (p:=⟨g,_,none⟩) C (hs g D)).trans (E j u hu)⟩
theorem RdF.mono (h:RdF F w v xs)(hs:∀g,F g->g<w.heap.size->G g):RdF G w v xs:=by
 obtain⟨a,B,rfl,J,I,H⟩:=h;refine⟨a,B,rfl,J,I,fun i x hx=> ?_⟩;obtain⟨g,A,rfl,E,C,D⟩:=H i x hx;exact⟨g,A,rfl,hs g E C,C,D⟩
theorem RdF.at_ {a:Option Addr}{n cap:Nat}(h:RdF F w (.slice a n cap) xs){i:Nat}{x:α}(hx:xs[i]? =some x):∃g off,a=some ⟨g,off,none⟩/\F g/\g<w.heap.size/\∀j u,(enc x)[j]? =some u->w.cell? ⟨g,off+(i*sz α+j),none⟩=some u:=by
 obtain⟨C,A,hv,_,_,B⟩:=h;cases hv;exact B i x hx
theorem RdF.of_row {e:TypeId}(h:RowAt w e v xs)(hF:∀g,v.ownBlock=some g->F g):RdF F w v xs:=by
 rcases h with⟨rfl,rfl⟩|⟨g,A,B,H,rfl,C,D,hm,I,G⟩
 .exact⟨none,0,rfl,znc _,znq _,fun i x hx=>by simp at hx⟩
 .refine⟨_,B,rfl,D,hm,fun i x hx=>⟨g,A,rfl,hF g rfl,zlt C,fun j u hu=> ?_⟩⟩
  have E:j<sz α:=by have:=(zge hu).1;rwa[Cells.len]at this
  rw[zch C];exact G _ u (by rw[ybg xs i j x hx E];exact hu)
theorem RdF.nil (F:Nat->Prop)(w:World):RdF (α:=α) F w (.slice none 0 0) []:=⟨none,0,rfl,znc _,znq _,fun i x hx=>by simp at hx⟩
end
inductive VF (F:Nat->Prop) (w:World):Value->List Val->Prop
 |mk (v:Value) (cs:List VC) (l:List Val) (hr:RdF F w v cs) (hl:cs.length=l.length) (h:∀(i:Nat) (c:VC) (x:Val),cs[i]? =some c->l[i]? =some x->c.kind=x.kind/\c.n=x.num/\c.s=x.txt)
   (hv:∀(i:Nat) (c:VC) (x:Val),cs[i]? =some c->l[i]? =some x->VF F w (.slice c.la c.ln c.lc) x.list):VF F w v l
theorem VF.keep {F S:Nat->Prop}{w w':World}(K:Keeps S w w')(hs:∀g,F g->¬S g){v:Value}{l:List Val}(h:VF F w v l):VF F w' v l:=by
 induction h with
 |mk v cs l hr hl h0 _ ih=>exact .mk v cs l (hr.keep K hs) hl h0 ih
theorem VF.mono {F G:Nat->Prop}{w:World}(hs:∀g,F g->g<w.heap.size->G g){v:Value}{l:List Val}(h:VF F w v l):VF G w v l:=by
 induction h with
 |mk v cs l hr hl h0 _ ih=>exact .mk v cs l (hr.mono hs) hl h0 ih
theorem VF.nil (F:Nat->Prop)(w:World):VF F w (.slice none 0 0) []:=.mk _ [] [] (RdF.nil F w) rfl (fun i c x h=>by simp at h) (fun i c x h=>by simp at h)
structure CF (F:Nat->Prop)(w:World)(c:VC)(x:Val):Prop where
 kind:c.kind=x.kind
 n:c.n=x.num
 s:c.s=x.txt
 l:VF F w (.slice c.la c.ln c.lc) x.list
theorem CF.keep {F S:Nat->Prop}{w w':World}{c:VC}{x:Val}(h:CF F w c x)(K:Keeps S w w')(hs:∀g,F g->¬S g):CF F w' c x:=⟨h.kind,h.n,h.s,h.l.keep K hs⟩
theorem CF.mono {F G:Nat->Prop}{w:World}{c:VC}{x:Val}(h:CF F w c x)(hs:∀g,F g->g<w.heap.size->G g):CF G w c x:=⟨h.kind,h.n,h.s,h.l.mono hs⟩
def VRow (F:Nat->Prop)(w:World)(e:TypeId)(v:Value)(l:List Val):Prop:=
 ∃cs:List VC,RowAt w e v cs/\cs.length=l.length/\∀(i:Nat) (c:VC) (x:Val),cs[i]? =some c->l[i]? =some x->CF F w c x
theorem VRow.vf {F G:Nat->Prop}{w:World}{e:TypeId}{v:Value}{l:List Val}(h:VRow F w e v l)(hF:∀g,F g->G g)(hG:∀g,v.ownBlock=some g->G g):VF G w v l:=by
 obtain⟨D,C,B,A⟩:=h;exact .mk v D l (RdF.of_row C hG) B (fun i c x hc hx=>⟨(A i c x hc hx).kind,(A i c x hc hx).n,(A i c x hc hx).s⟩) (fun i c x hc hx=>(A i c x hc hx).l.mono (fun g h _=>hF g h))
theorem VRow.slice {F:Nat->Prop}{w:World}{e:TypeId}{v:Value}{l:List Val}(h:VRow F w e v l):∃a cap,v= .slice a l.length cap:=by
 obtain⟨D,B,A,C⟩:=h;obtain⟨a,cap,h⟩:=B.slice;exact⟨a,cap,by rw[<-A];exact h⟩
theorem VRow.nil (F:Nat->Prop)(w:World)(e:TypeId):VRow F w e (.slice none 0 0) []:=⟨[],.inl ⟨rfl,rfl⟩,rfl,fun i c x h=>by simp at h⟩
theorem VRow.keep {F S:Nat->Prop}{w w':World}{e:TypeId}{v:Value}{l:List Val}(h:VRow F w e v l)(K:Keeps S w w')(hs:∀g,F g->¬S g)(hv:∀g,v.ownBlock=some g->¬S g):VRow F w' e v l:=by
 obtain⟨D,C,B,A⟩:=h;exact⟨D,C.keep K hv,B,fun i c x hc hx=>(A i c x hc hx).keep K hs⟩
theorem VRow.mono {F G:Nat->Prop}{w:World}{e:TypeId}{v:Value}{l:List Val}(h:VRow F w e v l)(hs:∀g,F g->g<w.heap.size->G g):VRow G w e v l:=by
 obtain⟨D,C,B,A⟩:=h;exact⟨D,C,B,fun i c x hc hx=>(A i c x hc hx).mono hs⟩
theorem VRow.app {F G:Nat->Prop}{w w1:World}{e:TypeId}{v v1:Value}{cs:List VC}{l:List Val}{c:VC}{x:Val}(h2:cs.length=l.length)(h3:∀(i:Nat) (c:VC) (x:Val),cs[i]? =some c->l[i]? =some x->CF F w c x)(hc:CF F w c x)
  (h1:RowAt w1 e v1 (cs++[c]))(K:Keeps (fun j=>v.ownBlock=some j) w w1)(hF:∀g,F g->¬v.ownBlock=some g)(hG:∀g,F g->g<w.heap.size->G g):VRow G w1 e v1 (l++[x]):=by
 refine⟨cs++[c],h1,by simp[h2],fun i c' x' hc' hx'=> ?_⟩;have hk:∀{c x},CF F w c x->CF G w1 c x:=fun hx=>(hx.mono (G:=fun g=>F g/\G g) (fun g h hl=>⟨h,hG g h hl⟩)).keep K (fun g h=>hF g h.1)|>.mono (fun g h _=>h.2);by_cases hi:i<cs.length
 .rw[List.getElem?_append_left hi]at hc'
  rw[List.getElem?_append_left (by omega)]at hx';exact hk (h3 i c' x' hc' hx')
 .rw[List.getElem?_append_right (by omega)]at hc' hx'
  rw[h2]at hc';cases hj:i - l.length with
  |zero=>
   rw[hj]at hc' hx';simp at hc' hx';subst hc' hx';exact hk hc
  |succ j=>rw[hj]at hc';simp at hc'
theorem VF.elem {F:Nat->Prop}{w:World}{a:Option Addr}{n cap:Nat}{l:List Val}(h:VF F w (.slice a n cap) l):n=l.length/\∀(i:Nat) (x:Val),l[i]? =some x->∃c g off,CF F w c x/\a=some ⟨g,off,none⟩/\F g/\g<w.heap.size/\
  w.cell? ⟨g,off+i*4,none⟩=some (.int .i64 c.kind)/\w.cell? ⟨g,off+i*4+1,none⟩=some (.int .i64 c.n)/\w.cell? ⟨g,off+i*4+2,none⟩=some (.string c.s)/\w.cell? ⟨g,off+i*4+3,none⟩=some (.slice c.la c.ln c.lc):=by
 cases h with
 |mk _ cs _ hr hl h hv4=>
  obtain⟨M,D,hv⟩:=hr.slice;cases hv;refine⟨hl,fun i x hx=> ?_⟩;have E:i<cs.length:=by rw[hl];exact(zge hx).1
  have C:cs[i]? =some cs[i]:=List.getElem?_eq_getElem E;obtain⟨L,K,J⟩:=h i _ x C hx;have I:=hv4 i _ x C hx;obtain⟨g,off,G,H,B,A⟩:=hr.at_ C;exact⟨cs[i],g,off,⟨L,K,J,I⟩,G,H,B,A 0 _ rfl,by rw[zmm];exact A 1 _ rfl,by rw[zmm];exact A 2 _ rfl,by rw[zmm];exact A 3 _ rfl⟩
theorem VF.elems {F:Nat->Prop}{w:World}{a:Option Addr}{n cap:Nat}{l:List Val}(h:VF F w (.slice a n cap) l):n=l.length/\n<=maxLen/\(l=[]\/∃g off,a=some ⟨g,off,none⟩/\F g/\g<w.heap.size/\∀(i:Nat) (x:Val),l[i]? =some x->∃c,CF F w c x/\
  w.cell? ⟨g,off+i*4,none⟩=some (.int .i64 c.kind)/\w.cell? ⟨g,off+i*4+1,none⟩=some (.int .i64 c.n)/\w.cell? ⟨g,off+i*4+2,none⟩=some (.string c.s)/\w.cell? ⟨g,off+i*4+3,none⟩=some (.slice c.la c.ln c.lc)):=by
 obtain⟨J,E⟩:=h.elem;refine⟨J,?_,?_⟩
 .cases h with
  |mk _ cs _ hr hl h hv4=>
   have:=hr.length_le;omega
 .cases l with
  |nil=>exact .inl rfl
  |cons x r=>
   obtain⟨c,g,off,L,D,H,G,_⟩:=E 0 x rfl;refine .inr ⟨g,off,D,H,G,fun i y hy=> ?_⟩;obtain⟨K,M,C,B,A,_,_,I⟩:=E i y hy;rw[D]at A;cases A;exact⟨K,B,I⟩
structure Gl (P:Program)(N:Nat)(w:World):Prop where
 m:∃m:Int,w.cell? ⟨0,0,none⟩=some (.int .i64 m)
 es:∃tp p,w.var? P "strconv.ErrSyntax" =some #[.iface tp p]
 er:∃tp p,w.var? P "strconv.ErrRange" =some #[.iface tp p]
 tab:Lib.TabIs P w "internal/strconv.uint64pow10" .u64 Lib.pow10Tab
 gs:∃g1 g2 g3,P.globalNamed "strconv.ErrSyntax" =some g1∧P.globalNamed "strconv.ErrRange" =some g2∧P.globalNamed "internal/strconv.uint64pow10" =some g3∧g1<N∧g2<N∧g3<N
 n0:0<N
 n:N<=w.heap.size
theorem yft {P:Program}{w w':World}{s:String}{g:Nat}(hg:P.globalNamed s=some g)(h:w'.heap[g]? =w.heap[g]?):w'.var? P s=w.var? P s:=by
 simp[World.var?,hg,h]
theorem Gl.keep {P:Program}{N:Nat}{S:Nat->Prop}{w w':World}(h:Gl P N w)(K:Keeps S w w')(hs:∀j,S j->N<=j):Gl P N w':=by
 obtain⟨T,R,Q,O,⟨H,G,F,L,J,I,D,C,B⟩,E,M⟩:=h;have A:∀g,g<N->w'.heap[g]? =w.heap[g]? :=fun g hg=>K.block g (by omega) (fun hS=>by have:=hs g hS;omega);refine⟨?_,?_,?_,?_,⟨H,G,F,L,J,I,D,C,B⟩,E,znf M K.size⟩
 .rw[znt (w:=w) (A 0 E)];exact T
 .rw[yft L (A H D)];exact R
 .rw[yft J (A G C)];exact Q
 .unfold Lib.TabIs;rw[yft I (A F B)];exact O
theorem Gl.below {P:Program}{N:Nat}{w w':World}(h:Gl P N w)(K:Below w w w'):Gl P N w':=h.keep (S:=fun _=>False) (zkb K) (fun _ f=>f.elim)
theorem Gl.alloc {P:Program}{N:Nat}{w:World}(h:Gl P N w)(o:Obj):Gl P N (w.alloc o):=h.keep ((Keeps.refl (fun _=>False) w).alloc o) (fun _ f=>f.elim)
end Go.Va
namespace Go.Va
open Go.Own Go.RowKit
inductive PR where
 |ok (x:Val) (k:Nat)
 |deep
 |bad
def yn4 (c:UInt8):Bool:=decide (48<=c.toNat/\c.toNat<=57)
def ymJ:List UInt8->Nat
 |[]=>0
 |c::r=>bif yn4 c then ymJ r+1 else 0
theorem ykX:∀l:List UInt8,ymJ l<=l.length
 |[]=>znc _
 |c::r=>by
  have:=ykX r;rw[ymJ];cases yn4 c<;>simp<;>omega
def yeR (s:List UInt8)(k:Nat):Nat:=if yeu s k 45 then k+1 else k
def yb5 (s:List UInt8)(k:Nat):Nat:=yeR s k+ymJ (s.drop (yeR s k))
theorem ykW {s:List UInt8}{k:Nat}{c:UInt8}(h:yeu s k c=true):k<s.length:=by
 unfold yeu at h;cases hx:s[k]? with
 |none=>rw[hx]at h;cases h
 |some x=>exact(zge hx).1
theorem yin {s:List UInt8}{k:Nat}(h:k<=s.length):k<=yeR s k/\yeR s k<=s.length:=by
 unfold yeR;split
 .rename_i A
  have:=ykW A;omega
 .omega
theorem ygg {s:List UInt8}{k:Nat}(h:k<=s.length):k<=yb5 s k/\yb5 s k<=s.length:=by
 have B:=yin h;have A:=ykX (s.drop (yeR s k));simp at A;unfold yb5;omega
def ypi (s:List UInt8)(k:Nat):List UInt8:=(s.drop k).take (yb5 s k - k)
def ygf (s:List UInt8)(k:Nat):PR:=
 match Lib.parseIntB 64 (ypi s k)with
 | .ok v=>if Lib.itoa v=ypi s k then .ok (.mk 1 v ⟨#[]⟩ []) (yb5 s k)else .bad
 |_=>.bad
end Go.Va
namespace Go.Proofs.YtpagmlndgblhhaaGreatDoor
open Go.RowKit Go.Own Go.Own.MapTy Go.Va Go.Sort
open Go.Own.Cells (sz enc)
def yp9 (w:World)(b:Nat)(s:ByteArray)(k:Nat)(deep:Bool)(e:Ending)(w':World):Prop:=
 TX w' b s (yb5 s.data.toList k) deep/\Keeps (fun j=>j=b) w w'/\match ygf s.data.toList k with
  | .ok x k2=>(e= .returned (.tuple #[x.num,.bool true])/\x= .mk 1 x.num ⟨#[]⟩ []/\k2=yb5 s.data.toList k)
  |_=>∃n:Int,e= .returned (.tuple #[n,.bool false])
theorem ymH {s:ByteArray}{k:Nat}(h:k<s.size):s.data.toList.drop k=s[k]::s.data.toList.drop (k+1):=by
 have A:k<s.data.toList.length:=by simpa using h
 rw[znr A];rfl
def yqE (b:Nat)(s:ByteArray)(k:Nat)(deep:Bool)(c:UInt8)(w:World)(e:Ending)(w':World):Prop:=
 e= .returned (.bool (yeu s.data.toList k c))/\Hid (TX w' b s (bif yeu s.data.toList k c then k+1 else k) deep/\Keeps (fun j=>j=b) w w')
theorem ykV (b:Nat)(s:ByteArray)(k:Nat)(deep:Bool)(c:UInt8)(w:World)(H:TX w b s k deep)(hs:s.size<=4294967280):
  Calls Tryz.prog 171 #[.pointer (some ⟨b,0,none⟩),.int .u8 c.toNat] w (yqE b s k deep c w):=by
 cases he:yeu s.data.toList k c with
 |false=>
  refine(yoK b s k deep c w H he).mono ?_;rintro e A ⟨rfl,rfl⟩;exact⟨by rw[he],zhd ⟨by rw[he];exact H.drew,(Keeps.refl _ _).drew⟩⟩
 |true=>
  have hk:k<s.size:=by have:=ykW he;simpa using this
  refine(ynI b s k deep c w H hs hk he).mono ?_;rintro e A ⟨rfl,rfl⟩;exact⟨by rw[he],zhd ⟨by rw[he];exact(H.move (k+1)).drew,(Keeps.setCell (S:=fun j=>j=b) (p:=⟨b,1,none⟩) (Keeps.refl _ _) (.inl rfl) _).drew⟩⟩
def yqd (w:World)(s:ByteArray)(e:Ending)(w':World):Prop:=
 Below w w w'/\match Lib.parseIntB 64 s.data.toList with
  | .ok v=>e= .returned (.tuple #[v,.nilIface])
  |_=>∃(n:Int) (t:TypeId) (p:Value),e= .returned (.tuple #[n,.iface t p])
theorem ygd {N:Nat}(s:ByteArray)(w:World)(hs:s.size<=4294967280)(G:Gl Tryz.prog N w):
  Calls Tryz.prog 185 #[s,.int .i64 10,.int .i64 64] w (yqd w s):=by
 cases hp:Lib.parseIntB 64 s.data.toList with
 |ok v=>
  refine(Any.strconv_ParseInt_10_at64_ok Tryz.laysC174 s (by omega) v hp w).mono ?_;rintro e D ⟨rfl,E⟩;refine⟨?_,by rw[hp]⟩;rcases E with rfl|⟨t,rfl⟩
  .exact znv _ _
  .exact Joins.below_bytesWorld _ _ _ _ (znc _)
 |range=>
  obtain⟨A,p,hv⟩:=G.er;refine(Any.strconv_ParseInt_10_at64_range Tryz.laysC174 s (by omega) hp (.iface A p) w (by have C:=World.var?_cell Tryz.laysC174.m16 hv 0;simpa using C) (Or.inr ⟨A,p,rfl⟩)).mono ?_;rintro e D ⟨n,rfl,_,_,B⟩;exact⟨B,by rw[hp];exact⟨_,_,_,rfl⟩⟩
 |_=>
  obtain⟨A,p,hv⟩:=G.es;refine(Any.strconv_ParseInt_10_at64_syntax Tryz.laysC174 s (by omega) hp (.iface A p) w (by have C:=World.var?_cell Tryz.laysC174.m15 hv 0;simpa using C) (Or.inr ⟨A,p,rfl⟩)).mono ?_;rintro e D ⟨n,rfl,_,_,B⟩;exact⟨B,by rw[hp];exact⟨_,_,_,rfl⟩⟩
theorem yjy (w:World)(k:Nat)(os:Array Obj):Below w w (grow (w.drewN k) os):=
 ⟨rfl,rfl,rfl,by simp[grow,World.drewN],fun j hj=>by simp[grow,World.drewN,Array.getElem?_append_left hj]⟩
theorem yfG {N:Nat}(n:Int)(h0: -9223372036854775808<=n)(h1:n<=9223372036854775807)(w:World)(G:Gl Tryz.prog N w):
  Calls Tryz.prog 186 #[n,.int .i64 10] w fun e w'=>e= .returned (.string ⟨(Lib.itoa n).toArray⟩)/\Below w w w':=by
 refine(Any.strconv_FormatInt_10 Tryz.laysM173 n h0 h1 w G.tab).mono ?_;rintro e w' ⟨rfl,k,A,rfl⟩;exact⟨rfl,yjy w k A⟩
def yqR (w:World)(b:Nat)(s:ByteArray)(j0:Nat)(deep:Bool)(gk:Nat)(wr:World):Prop:=
 ∃k,gk=s.size - k/\k<=s.size/\TX wr b s k deep/\Keeps (fun j=>j=b) w wr/\k+ymJ (s.data.toList.drop k)=yb5 s.data.toList j0
theorem yeP {l:List UInt8}{v:Int}(h:Lib.parseIntB 64 l= .ok v): -9223372036854775808<=v/\v<=9223372036854775807:=by
 unfold Lib.parseIntB at h;cases l with
 |nil=>cases h
 |cons c r=>
  dsimp only at h;split at h
  .cases h
  .cases h
  .rename_i u C
   split at h
   .cases h
   .rename_i B
    split at h
    .cases h
    .rename_i A
     cases h;by_cases hn:c.toNat=45
     .simp[hn]at A|-
      omega
     .simp[hn]at B|-
      omega
theorem yjg {N:Nat}(b:Nat)(s:ByteArray)(j0:Nat)(deep:Bool)(w:World)(H:TX w b s j0 deep)(hs:s.size<=4294967280)(ha:j0<=s.size)(G:Gl Tryz.prog N w)(hN:N<=b):
  Calls Tryz.prog 173 #[.pointer (some ⟨b,0,none⟩)] w (yp9 w b s j0 deep):=by
 have b0:b<w:=H.lt;have c0:=H.c0;have c1:=H.c1;have HH:=zh2 H G;clear H G;have EA:=zhd (show Calls Tryz.prog 171 #[.pointer (some ⟨b,0,none⟩),.int .u8 45] w _ from ykV b s j0 deep 45 w HH.o.1 hs);go_in;go_wp2_with fail;refine EA.o.mono ?_;rintro e x ⟨rfl,i⟩;clear EA c0 c1;have q:=zhd (yin (s:=s.data.toList) (k:=j0) (by simpa using ha));have i:=zhd (show TX x b s (yeR s.data.toList j0) deep/\Keeps (fun j=>j=b) w x from⟨by
  have h:=i.o.1;unfold yeR;cases he:yeu s.data.toList j0 45<;>simpa[he]using h,i.o.2⟩)
 generalize hb1:yeu s.data.toList j0 45=be;go_wp2_with fail;go_loopg [] (s.size - yeR s.data.toList j0) (fun gk wr=>yqR w b s j0 deep gk wr)
 case atStart=>
  refine⟨yeR s.data.toList j0,rfl,?_,i.o.1,i.o.2,rfl⟩;have:=q.o.2;simpa using this
 case round=>
  obtain⟨k,X,hk,Q,y,Z⟩:=hrel;have b1:b<wr:=Q.lt;have c0:=Q.c0;have c1:=Q.c1;have a:=Q.fr;have L:=zh4 Q y X Z;clear Q y X Z;by_cases hgo:k<s.size/\yn4 (s.data.toList.getD k 0)=true
  .obtain⟨A,C⟩:=hgo
   have r:(k:Int)<s.size:=by omega
   have P:s.data.toList.getD k 0=s[k]:=by simp[List.getD,A];rfl
   rw[P]at C;have Y:=zhd C;unfold yn4 at C;rw[decide_eq_true_eq]at C;have e1:(48:Int)<=s[k].toNat:=by omega
   have e2:(s[k].toNat:Int)<=57:=by omega
   clear C P;have hw:IntKind.i64.wrap ((k:Int)+1)=(k:Int)+1:=zmk _ (by omega);go_wp2_with fail;refine yaA (by kernel_rfl) (by kernel_rfl) ?_
   repeat(go_big_quiet_step (fail))
   refine wpQuiet_nil ?_;intro u B;have D:=L.o.1.keep (S:=fun _=>False) (zkb B) (fun f=>f);have g:=L.o.2.1.trans (T:=fun _=>False) (zkb B) (fun _ _ f=>f.elim);have c:TX (u.setCell ⟨b,1,none⟩ (.int .i64 ((k:Int)+1))) b s (k+1) deep:=D.move (k+1);have R:=Keeps.setCell (p:=⟨b,1,none⟩) g (.inl rfl) (.int .i64 ((k:Int)+1));have O:=zh2 c R;clear c0 c1 a;have c0:=D.c0;have c1:=D.c1;have a:=D.fr;have b7:=D.lt;clear D g c R B;go_wp2_with fail;go_roundg (s.size - (k+1))
   case measure=>have:=L.o.2.2.1;omega
   case rel=>
    refine⟨k+1,rfl,A,O.o.1,O.o.2,?_⟩;have h:=L.o.2.2.2;rw[ymH A,ymJ,Y.o]at h;simp only[znm]at h;omega
  .have hend:=zhd (show k=yb5 s.data.toList j0 from by
    have h:=L.o.2.2.2;by_cases A:k<s.size
    .have P:s.data.toList.getD k 0=s[k]:=by simp[List.getD,A];rfl
     rw[P]at hgo;rw[ymH A,ymJ]at h;cases Z:yn4 s[k]with
     |false=>rw[Z]at h;simpa using h
     |true=>exact absurd ⟨A,Z⟩ hgo
    .rw[zns (by simp;omega)]at h
     simpa[ymJ]using h)
   have Ab:j0<=k:=by
    have:=(ygg (s:=s.data.toList) (k:=j0) (by simpa using ha)).1;have:=hend.o;omega
   have U:=zhd (show(s.extract j0 k).data.toList=ypi s.data.toList j0 from by
    unfold ypi;rw[<-hend.o];simp[ByteArray.data_extract])
   have m:(s.extract j0 k).size<=4294967280:=by simp;omega
   have PI:=zhd (fun W (HG:Gl Tryz.prog N W)=>ygd (s.extract j0 k) W m HG);have cs:(¬(k:Int)<s.size/\decide (k<s.size)=false)\/(∃h:k<s.size,(k:Int)<s.size/\¬(48:Int)<=s[k].toNat/\decide ((48:Int)<=(s[k].toNat:Int))=false)\/
     (∃h:k<s.size,(k:Int)<s.size/\(48:Int)<=s[k].toNat/\¬(s[k].toNat:Int)<=57/\decide ((s[k].toNat:Int)<=57)=false):=by
    by_cases A:k<s.size
    .have P:s.data.toList.getD k 0=s[k]:=by simp[List.getD,A];rfl
     rw[P]at hgo;have C:¬(48<=s[k].toNat/\s[k].toNat<=57):=fun h=>hgo ⟨A,by unfold yn4;rw[decide_eq_true_eq];exact h⟩;by_cases h48:48<=s[k].toNat
     .exact .inr (.inr ⟨A,by omega,by omega,by omega,by rw[znz];omega⟩)
     .exact .inr (.inl ⟨A,by omega,by omega,by rw[znz];omega⟩)
    .exact .inl ⟨by omega,by rw[znz];omega⟩
   clear hgo;rcases cs with⟨r,z⟩|⟨A,r,e1,z⟩|⟨A,r,e1,e2,z⟩
   all_goals
    go_wp2_with fail;refine yaA (by kernel_rfl) (by kernel_rfl) ?_
    repeat(go_big_quiet_step (fail))
    refine wpQuiet_nil ?_;intro u B;have D:=L.o.1.keep (S:=fun _=>False) (zkb B) (fun f=>f);have g:=L.o.2.1.trans (T:=fun _=>False) (zkb B) (fun _ _ f=>f.elim);have H7:=zh2 D g;clear c0 c1 a;have c0:=D.c0;have c1:=D.c1;have a:=D.fr;have b7:=D.lt;clear D g B;go_wp2_with fail;refine yaA (by kernel_rfl) (by kernel_rfl) ?_
    repeat(go_big_quiet_step (fail))
    refine wpQuiet_nil ?_;intro w8 K;have c:=H7.o.1.keep (S:=fun _=>False) (zkb K) (fun f=>f);have R:=H7.o.2.trans (T:=fun _=>False) (zkb K) (fun _ _ f=>f.elim);have G8:=HH.o.2.keep R (fun j e=>by omega);have O:=zh3 c R G8;clear c0 c1 a c R G8 K;go_wp2_with fail;refine(PI.o _ O.o.2.2).mono ?_;rintro e w9 ⟨F,HI⟩;have T9:=O.o.1.keep (S:=fun _=>False) (zkb F) (fun f=>f);have K9:=O.o.2.1.trans (T:=fun _=>False) (zkb F) (fun _ _ f=>f.elim);have G9:=O.o.2.2.below F;have M:=zh3 T9 K9 G9;clear T9 K9 G9 F;cases hp:Lib.parseIntB 64 (s.extract j0 k).data.toList with
    |ok v=>
     rw[hp]at HI;have bd:=yeP hp;rw[U.o]at hp;have V:=zhd hp;obtain rfl:=HI;clear hp;have FI:=zhd (yfG v bd.1 bd.2 w9 M.o.2.2);cases hq:(Lib.itoa v==(s.extract j0 k).data.toList)
     all_goals
      have e5:((⟨(Lib.itoa v).toArray⟩:ByteArray).toList==(s.extract j0 k).toList)=(Lib.itoa v==(s.extract j0 k).data.toList):=by rw[zml,zml]
      rw[hq]at e5;rw[U.o]at hq;have l:=zhd hq;clear hq;go_wp2_with fail;refine FI.o.mono ?_;rintro e Aa ⟨rfl,E⟩;have d:=M.o.1.keep (S:=fun _=>False) (zkb E) (fun f=>f);have K10:=M.o.2.1.trans (T:=fun _=>False) (zkb E) (fun _ _ f=>f.elim);have I:=zh2 d K10;clear d K10 E;go_wp2_with fail
      first
      |(refine zng (v:=.tuple #[v,.bool true]) (by simp only[results,Tryz.results173];go_simp;rw[zml,U.o];exact beq_iff_eq.1 l.o) rfl ⟨by rw[<-hend.o];exact I.o.1,I.o.2,?_⟩
        have J:ygf s.data.toList j0= .ok (.mk 1 v ⟨#[]⟩ []) (yb5 s.data.toList j0):=by
         unfold ygf;rw[V.o];exact if_pos (beq_iff_eq.1 l.o)
        rw[J];exact⟨rfl,rfl,rfl⟩)
      |(refine zng (v:=.tuple #[v,.bool false]) (by simp only[results,Tryz.results173];go_simp;rw[zml,U.o];exact fun e=>by have:=l.o;rw[beq_iff_eq.2 e]at this;cases this) rfl ⟨by rw[<-hend.o];exact I.o.1,I.o.2,?_⟩
        have J:ygf s.data.toList j0= .bad:=by
         unfold ygf;rw[V.o];exact if_neg (fun e=>by have:=l.o;rw[beq_iff_eq.2 e]at this;cases this)
        rw[J];exact⟨_,rfl⟩)
    |range=>
     rw[hp]at HI;obtain⟨n,t,p,rfl⟩:=HI;rw[U.o]at hp;have V:=zhd hp;clear hp;go_wp2_with fail;refine zng (v:=.tuple #[n,.bool false]) (by simp only[results,Tryz.results173];go_simp) rfl ⟨by rw[<-hend.o];exact M.o.1,M.o.2.1,?_⟩;have J:ygf s.data.toList j0= .bad:=by
      unfold ygf;rw[V.o]
     rw[J];exact⟨n,rfl⟩
    |_=>
     rw[hp]at HI;obtain⟨n,t,p,rfl⟩:=HI;rw[U.o]at hp;have V:=zhd hp;clear hp;go_wp2_with fail;refine zng (v:=.tuple #[n,.bool false]) (by simp only[results,Tryz.results173];go_simp) rfl ⟨by rw[<-hend.o];exact M.o.1,M.o.2.1,?_⟩;have J:ygf s.data.toList j0= .bad:=by
      unfold ygf;rw[V.o]
     rw[J];exact⟨n,rfl⟩
end Go.Proofs.YtpagmlndgblhhaaGreatDoor
namespace Go.Va
open Go.Own Go.RowKit
def yan:Val->Nat->Nat×Int->Nat×Int
 | .mk k _ s l,d,(p,e)=>
   bif e !=0 then(p,e)else
   bif decide (256<=p)then(p+1,2)else
   bif k==0||k==1 then(p+1,0)else
   bif k==2 then(p+1,bif decide (256<s.size)then 2 else 0)else
   bif k==3 then walkL l (d+1) (p+1,bif decide (8<=d)then 30 else bif decide (64<l.length)then 2 else 0)else(p+1,9)
where walkL:List Val->Nat->Nat×Int->Nat×Int
 |[],_,c=>c
 |x::r,d,c=>bif c.2 !=0 then c else walkL r d (yan x d c)
theorem ycc (x:Val)(d p:Nat)(e:Int):yan x d (p,e)=bif e !=0 then(p,e)else
  bif decide (256<=p)then(p+1,2)else
  bif x.kind==0||x.kind==1 then(p+1,0)else
  bif x.kind==2 then(p+1,bif decide (256<x.txt.size)then 2 else 0)else
  bif x.kind==3 then yan.walkL x.list (d+1) (p+1,bif decide (8<=d)then 30 else bif decide (64<x.list.length)then 2 else 0)else(p+1,9):=by
 cases x;rw[yan];rfl
theorem yaO (x:Val)(r:List Val)(d:Nat)(c:Nat×Int):yan.walkL (x::r) d c=bif c.2 !=0 then c else yan.walkL r d (yan x d c):=by
 rw[yan.walkL]
theorem ya2 (d:Nat)(c:Nat×Int):yan.walkL [] d c=c:=by rw[yan.walkL]
theorem ya3 (r:List Val)(d:Nat)(c:Nat×Int)(h:(c.2 !=0)=true):yan.walkL r d c=c:=by
 cases r with
 |nil=>rw[ya2]
 |cons x r=>rw[yaO,h];rfl
mutual
theorem ycW:∀(x:Val) (d:Nat) (c:Nat×Int),(c.2=0->c.1<=256)->((yan x d c).2=0->(yan x d c).1<=256)
 | .mk k n s l,d,(p,e),h=>by
   rw[yan];cases h1:(e !=0)with
   |true=>simpa using h
   |false=>
    cases h2:decide (256<=p)with
    |true=>simp
    |false=>
     rw[znz]at h2;cases h3:(k==0||k==1)with
     |true=>simp;omega
     |false=>
      cases h4:(k==2)with
      |true=>simp;omega
      |false=>
       cases h5:(k==3)with
       |true=>
        simp only[znl,znm];exact yh2 l (d+1) _ (fun _=>by simp;omega)
       |false=>simp
theorem yh2:∀(l:List Val) (d:Nat) (c:Nat×Int),(c.2=0->c.1<=256)->((yan.walkL l d c).2=0->(yan.walkL l d c).1<=256)
 |[],d,c,h=>by rw[ya2];exact h
 |x::r,d,c,h=>by
  rw[yaO];cases h1:(c.2 !=0)with
  |true=>exact h
  |false=>exact yh2 r d _ (ycW x d c h)
end
end Go.Va
namespace Go.Proofs.YtpagmlndgblhhaaGreatDoor
open Go.RowKit Go.Own Go.Own.MapTy Go.Va Go.Sort
open Go.Own.Cells (sz enc)
def CX (w:World)(b:Nat)(c:Nat×Int):Prop:=w.heap[b]? =some (.cells #[.int .i64 c.1,.int .i64 c.2] 182 (0,0))
theorem CX.c0 {w:World}{b:Nat}{c:Nat×Int}(h:CX w b c):w.cell? ⟨b,0,none⟩=some (.int .i64 c.1):=by rw[zch h];rfl
theorem CX.c1 {w:World}{b:Nat}{c:Nat×Int}(h:CX w b c):w.cell? ⟨b,1,none⟩=some (.int .i64 c.2):=by rw[zch h];rfl
theorem CX.fr {w:World}{b:Nat}{c:Nat×Int}(h:CX w b c)(o:Nat):w.frozen? ⟨b,o,none⟩=false:=zfr h o
theorem CX.lt {w:World}{b:Nat}{c:Nat×Int}(h:CX w b c):b<w:=zlt h
theorem CX.keep {w w':World}{b:Nat}{c:Nat×Int}{S:Nat->Prop}(h:CX w b c)(K:Keeps S w w')(hs:¬S b):CX w' b c:=(K.block b h.lt hs).trans h
theorem CX.set0 {w:World}{b p:Nat}{e:Int}(h:CX w b (p,e))(q:Nat):CX (w.setCell ⟨b,0,none⟩ (.int .i64 q)) b (q,e):=by
 unfold CX at h|-;simp[World.setCell,zni,h]
theorem CX.set1 {w:World}{b p:Nat}{e:Int}(h:CX w b (p,e))(f:Int):CX (w.setCell ⟨b,1,none⟩ (.int .i64 f)) b (p,f):=by
 unfold CX at h|-;simp[World.setCell,zni,h]
def yhV (w:World)(b:Nat)(r:Nat×Int)(e:Ending)(w':World):Prop:=e= .returned (.tuple #[])/\CX w' b r/\Keeps (fun j=>j=b) w w'
theorem ylo (x:Val)
  (b d p:Nat)(e:Int)(ck cn:Int)(cs:ByteArray)(la:Option Addr)(ln lc:Nat)(F:Nat->Prop)(w:World)(H:CX w b (p,e))(C:CF F w ⟨ck,cn,cs,la,ln,lc⟩ x)(hF:¬F b)(hd:d<=8)(hp:e=0->p<=256)(r:Nat×Int)(hr:yan x d (p,e)=r)
  (he:(e !=0)=true):
  Calls Tryz.prog 99 #[.pointer (some ⟨b,0,none⟩),.agg #[ck,cn,cs,.slice la ln lc],d] w (yhV w b r)
  :=by
 have K:=zai hF (zai hd hp);have J:=H.lt;have c0:=H.c0;have c1:=H.c1;have I:=H.fr;rw[ycc]at hr;have D:ck=x.kind:=C.kind;have B:cs=x.txt:=C.s;have G:=zh2 H C;clear H C;dsimp only at c0 c1;go_in;rw[he]at hr;have E:=zhd hr;clear hr D B;go_wp2_with fail;have A:=E.o;simp only[znm]at A;subst A;exact zng (v:=.tuple #[]) (by simp only[results,Tryz.results99];go_simp) rfl ⟨rfl,G.o.1.keep (S:=fun _=>False) ((Keeps.refl _ _).alloc _) (fun f=>f),(Keeps.refl _ _).alloc _⟩
theorem yhY (x:Val)
  (b d p:Nat)(e:Int)(ck cn:Int)(cs:ByteArray)(la:Option Addr)(ln lc:Nat)(F:Nat->Prop)(w:World)(H:CX w b (p,e))(C:CF F w ⟨ck,cn,cs,la,ln,lc⟩ x)(hF:¬F b)(hd:d<=8)(hp:e=0->p<=256)(r:Nat×Int)(hr:yan x d (p,e)=r)
  (he:e=0)(h3:(x.kind==3)=false\/256<=p):
  Calls Tryz.prog 99 #[.pointer (some ⟨b,0,none⟩),.agg #[ck,cn,cs,.slice la ln lc],d] w (yhV w b r)
  :=by
 have U:=zai hF hd;subst he;have T:=H.lt;have c0:=H.c0;have c1:=H.c1;have R:=H.fr;rw[ycc]at hr;have B:ck=x.kind:=C.kind;have E:cs=x.txt:=C.s;have Q:=zh2 H C;clear H C;dsimp only at c0 c1;go_in;simp only[bne_self_eq_false,znl]at hr;have hp:=hp rfl;have L:=Q.o.1.set0 (p+1);have N:Keeps (fun j=>j=b) w (w.setCell ⟨b,0,none⟩ (.int .i64 ((p:Int)+1))):=Keeps.setCell (S:=fun j=>j=b) (p:=⟨b,0,none⟩) (Keeps.refl _ w) (.inl rfl) _;have M:∀W,Keeps (fun _=>False) W (W.alloc (.cells #[ck,cn,cs,.slice la ln lc] 38)):=fun W=>(Keeps.refl _ _).alloc _;have D:=zh3 L N M;clear L N M;cases h2:decide (256<=p)with
 |true=>
  rw[h2]at hr;rw[decide_eq_true_eq]at h2;have G:=zhd hr;have P:(256:Int)<(p:Int)+1:=by omega
  clear hr B E;go_wp2_with fail;have A:=G.o;simp only[znm]at A;subst A;exact zng (v:=.tuple #[]) (by simp only[results,Tryz.results99];go_simp) rfl ⟨rfl,(D.o.1.set1 2).keep (D.o.2.2 _) (fun f=>f),((D.o.2.1.setCell (p:=⟨b,1,none⟩) (.inl rfl) (.int .i64 2)).alloc _)⟩
 |false=>
  rw[h2]at hr;simp only[znl]at hr;rw[znz]at h2;have P:¬(256:Int)<(p:Int)+1:=by omega
  have h3:=h3.resolve_right h2;cases I:(x.kind==0||x.kind==1)with
  |true=>
   rw[I]at hr;have G:=zhd hr;have I:ck=0\/ck=1:=by rw[B];simpa using I
   clear hr B E h3;rcases I with rfl|rfl
   all_goals
    go_wp2_with fail;have A:=G.o;simp only[znm]at A;subst A
    go_end0
    exact⟨rfl,D.o.1.keep (D.o.2.2 _) (fun f=>f),D.o.2.1.alloc _⟩
  |false=>
   rw[I]at hr;simp only[znl]at hr;rw[Bool.or_eq_false_iff,<-B]at I;obtain⟨K,J⟩:=I;cases k2:(x.kind==2)with
   |true=>
    rw[k2]at hr;simp only[znm,<-E]at hr;obtain rfl:ck=2:=by rw[B];simpa using k2
    cases hs:decide (256<cs.size)with
    |true=>
     rw[hs]at hr;have G:=zhd hr;rw[decide_eq_true_eq]at hs;have O:(256:Int)<cs.size:=by omega
     clear hr B E h3 K J k2;go_wp2_with fail;have A:=G.o;simp only[znm]at A;subst A
     go_end0
     exact⟨rfl,(D.o.1.set1 2).keep (D.o.2.2 _) (fun f=>f),((D.o.2.1.setCell (p:=⟨b,1,none⟩) (.inl rfl) (.int .i64 2)).alloc _)⟩
    |false=>
     rw[hs]at hr;have G:=zhd hr;rw[znz]at hs;have O:¬(256:Int)<cs.size:=by omega
     clear hr B E h3 K J k2;go_wp2_with fail;have A:=G.o;simp only[znl]at A;subst A
     go_end0
     exact⟨rfl,D.o.1.keep (D.o.2.2 _) (fun f=>f),D.o.2.1.alloc _⟩
   |false=>
    rw[k2,h3]at hr;have G:=zhd hr;rw[<-B]at k2 h3;clear hr B E;go_wp2_with fail;have A:=G.o;simp only[znl]at A;subst A
    go_end0
    exact⟨rfl,(D.o.1.set1 9).keep (D.o.2.2 _) (fun f=>f),((D.o.2.1.setCell (p:=⟨b,1,none⟩) (.inl rfl) (.int .i64 9)).alloc _)⟩
def ypY (w:World)(b d:Nat)(x:Val)(r:Nat×Int)(gk:Nat)(v64:Value)(wr:World):Prop:=
 ∃(i:Nat) (cur:Nat×Int),v64= .int .i64 i/\i<=x.list.length/\gk=x.list.length - i/\CX wr b cur/\Keeps (fun j=>j=b) w wr/\yan.walkL (x.list.drop i) (d+1) cur=r/\(cur.2=0->cur.1<=256/\d<8)/\w<wr.heap.size
theorem yjM (n:Nat)(IH:∀(x:Val),x.parts<=n->∀(b d p:Nat) (e:Int) (c:VC) (F:Nat->Prop) (w:World),CX w b (p,e)->CF F w c x->¬F b->d<=8->(e=0->p<=256)->
   Calls Tryz.prog 99 #[.pointer (some ⟨b,0,none⟩),.agg #[c.kind,c.n,c.s,.slice c.la c.ln c.lc],d] w (yhV w b (yan x d (p,e))))
  (x:Val)
  (b d p:Nat)(e:Int)(ck cn:Int)(cs:ByteArray)(la:Option Addr)(ln lc:Nat)(F:Nat->Prop)(w:World)(H:CX w b (p,e))(C:CF F w ⟨ck,cn,cs,la,ln,lc⟩ x)(hF:¬F b)(hd:d<=8)(hp:e=0->p<=256)(r:Nat×Int)(hr:yan x d (p,e)=r)
  (he:e=0)(h3:(x.kind==3)=true)(h2:¬256<=p)(hx:x.parts<=n+1)(g off:Nat)
  (hel:ln=x.list.length/\ln<=maxLen/\(∀(i:Nat) (y:Val),x.list[i]? =some y->F g/\g<w/\∃c,CF F w c y/\
    w.cell? ⟨g,off+i*4,none⟩=some (.int .i64 c.kind)/\w.cell? ⟨g,off+i*4+1,none⟩=some (.int .i64 c.n)/\w.cell? ⟨g,off+i*4+2,none⟩=some (.string c.s)/\w.cell? ⟨g,off+i*4+3,none⟩=some (.slice c.la c.ln c.lc)))(hla:la=some ⟨g,off,none⟩):
  Calls Tryz.prog 99 #[.pointer (some ⟨b,0,none⟩),.agg #[ck,cn,cs,.slice la ln lc],d] w (yhV w b r)
  :=by
 subst he;subst hla;have b0:=H.lt;have c0:=H.c0;have c1:=H.c1;have f0:=H.fr;rw[ycc]at hr;have Ah:ck=x.kind:=C.kind;have Ak:cs=x.txt:=C.s;have HH:=zh2 H C;clear H C;dsimp only at c0 c1;simp only[bne_self_eq_false,znl]at hr;have hp:=hp rfl;have HI:=zhd IH;have k0:(x.kind==0||x.kind==1)=false:=by have:=beq_iff_eq.1 h3;rw[this];rfl
 have k2:(x.kind==2)=false:=by have:=beq_iff_eq.1 h3;rw[this];rfl
 have Ag:ck=3:=by rw[Ah];exact beq_iff_eq.1 h3
 subst Ag;rw[k0,k2,h3]at hr;have Af:decide (256<=p)=false:=by rw[znz];exact h2
 rw[Af]at hr;simp only[znl,znm]at hr;have e2:¬(256:Int)<(p:Int)+1:=by omega
 obtain⟨Ac,Aj,hel⟩:=hel;rw[<-Ac]at hr;have HE:=zhd hel;have R:=zhd Ac;unfold maxLen at Aj;have T0:=HH.o.1.set0 (p+1);have K0:Keeps (fun j=>j=b) w (w.setCell ⟨b,0,none⟩ (.int .i64 ((p:Int)+1))):=Keeps.setCell (S:=fun j=>j=b) (p:=⟨b,0,none⟩) (Keeps.refl _ w) (.inl rfl) _;have KA:∀W,Keeps (fun _=>False) W (W.alloc (.cells #[.int .i64 3,cn,cs,.slice (some ⟨g,off,none⟩) ln lc] 38)):=fun W=>(Keeps.refl _ _).alloc _;have HT:=zh3 T0 K0 KA;clear T0 K0 KA Ah Ak k0 k2 h3 Af IH hel Ac h2;go_in;have Aa:(∃e1:Int,yan.walkL x.list (d+1) (p+1,e1)=r/\((8<=d/\e1=30)\/(¬8<=d/\64<ln/\e1=2)\/(¬8<=d/\¬64<ln/\e1=0))):=by
  refine⟨_,hr,?_⟩;by_cases h8:8<=d
  .exact .inl ⟨h8,by simp[h8]⟩
  .by_cases Q:64<ln
   .exact .inr (.inl ⟨h8,Q,by simp[h8,Q]⟩)
   .exact .inr (.inr ⟨h8,Q,by simp[h8,Q]⟩)
 clear hr;obtain⟨e1,hr,Al⟩:=Aa;have HR:=zhd hr;clear hr;rcases Al with⟨h8,rfl⟩|⟨h8,Q,rfl⟩|⟨h8,Q,rfl⟩
 .have t8:(8:Int)<=d:=by omega
  go_wp2_with fail;have T1:=(HT.o.1.set1 30).keep (HT.o.2.2 _) (fun f=>f);have K1:=(HT.o.2.1.setCell (p:=⟨b,1,none⟩) (.inl rfl) (.int .i64 30)).alloc (.cells #[.int .i64 3,cn,cs,.slice (some ⟨g,off,none⟩) ln lc] 38);go_loopg [64] (x.list.length) (fun gk v64 wr=>ypY w b d x r gk v64 wr)
  case atStart=>exact⟨0,(p+1,(30:Int)),rfl,znq _,rfl,T1,K1,HR.o,(by intro h;first|(simp at h;done)|(constructor<;>omega)),by simp⟩
  case round=>
   clear T1 K1 c0 c1 f0;obtain⟨i,A,rfl,hi,K,B,L,E,J,Ad⟩:=hrel;have c0:=B.c0;have c1:=B.c1;have f0:=B.fr;have b1:=B.lt;by_cases hin:i<ln
   .obtain⟨y,N⟩:=yae (l:=x.list) (k:=i) (by have:=R.o;omega)
    obtain⟨m,hg,I,t,q0,q1,q2,q3⟩:=HE.o i y N;have U:g≠b:=fun e=>hF (e▸m);have Ae:g<wr:=by omega
    rw[<-L.cell (p:=⟨g,_,none⟩) hg U]at q0 q1 q2 q3;have M:x.list.drop i=y::x.list.drop (i+1):=by
     rw[znr (zge N).1,(zge N).2]
    rw[M,yaO]at E;have O:=t.keep L (fun g h e=>hF (e▸h));have u:y.parts<=n:=by
     have:=Val.parts_lt (v:=x) (zmg N);omega
    have Ab:(i:Int)<ln:=by omega
    cases hce:(A.2 !=0)with
    |true=>
     rw[hce]at E;have D:=zh3 E B L;clear E B L K J t O M N;go_wp2_with fail;have G:=D.o.1;simp only[znm]at G;subst G;exact zng (v:=.tuple #[]) (by simp only[results,Tryz.results99];go_simp) rfl ⟨rfl,D.o.2.1.keep (S:=fun _=>False) ((Keeps.refl _ _).alloc _) (fun f=>f),D.o.2.2.alloc _⟩
    |false=>
     rw[hce]at E;have V:A.2=0:=by simpa using hce
     obtain⟨P,z⟩:=J V;exfalso;omega
   .obtain rfl:i=ln:=by have:=R.o;omega
    rw[zns (by have:=R.o;omega),ya2]at E;have D:=zh3 E B L;clear E B L K J;go_wp2_with fail;have G:=D.o.1;subst G
    go_end0
    exact⟨rfl,D.o.2.1,D.o.2.2⟩
 .have t8:¬(8:Int)<=d:=by omega
  have Ai:(64:Int)<ln:=by omega
  go_wp2_with fail;have T1:=(HT.o.1.set1 2).keep (HT.o.2.2 _) (fun f=>f);have K1:=(HT.o.2.1.setCell (p:=⟨b,1,none⟩) (.inl rfl) (.int .i64 2)).alloc (.cells #[.int .i64 3,cn,cs,.slice (some ⟨g,off,none⟩) ln lc] 38);go_loopg [64] (x.list.length) (fun gk v64 wr=>ypY w b d x r gk v64 wr)
  case atStart=>exact⟨0,(p+1,(2:Int)),rfl,znq _,rfl,T1,K1,HR.o,(by intro h;first|(simp at h;done)|(constructor<;>omega)),by simp⟩
  case round=>
   clear T1 K1 c0 c1 f0;obtain⟨i,A,rfl,hi,K,B,L,E,J,Ad⟩:=hrel;have c0:=B.c0;have c1:=B.c1;have f0:=B.fr;have b1:=B.lt;by_cases hin:i<ln
   .obtain⟨y,N⟩:=yae (l:=x.list) (k:=i) (by have:=R.o;omega)
    obtain⟨m,hg,I,t,q0,q1,q2,q3⟩:=HE.o i y N;have U:g≠b:=fun e=>hF (e▸m);have Ae:g<wr:=by omega
    rw[<-L.cell (p:=⟨g,_,none⟩) hg U]at q0 q1 q2 q3;have M:x.list.drop i=y::x.list.drop (i+1):=by
     rw[znr (zge N).1,(zge N).2]
    rw[M,yaO]at E;have O:=t.keep L (fun g h e=>hF (e▸h));have u:y.parts<=n:=by
     have:=Val.parts_lt (v:=x) (zmg N);omega
    have Ab:(i:Int)<ln:=by omega
    cases hce:(A.2 !=0)with
    |true=>
     rw[hce]at E;have D:=zh3 E B L;clear E B L K J t O M N;go_wp2_with fail;have G:=D.o.1;simp only[znm]at G;subst G;exact zng (v:=.tuple #[]) (by simp only[results,Tryz.results99];go_simp) rfl ⟨rfl,D.o.2.1.keep (S:=fun _=>False) ((Keeps.refl _ _).alloc _) (fun f=>f),D.o.2.2.alloc _⟩
    |false=>
     rw[hce]at E;have V:A.2=0:=by simpa using hce
     obtain⟨P,z⟩:=J V;have D:=zh4 E B L K;have Y:=B.keep (S:=fun _=>False) ((Keeps.refl _ _).alloc (.cells #[I.kind,I.n,I.s,.slice I.la I.ln I.lc] 38)) (fun f=>f);have q:=O.keep (S:=fun _=>False) ((Keeps.refl _ _).alloc (.cells #[I.kind,I.n,I.s,.slice I.la I.ln I.lc] 38)) (fun _ _ f=>f);have CA:=zhd (HI.o y u b (d+1) A.1 A.2 I F _ Y q hF (by omega) (fun _=>P));clear E B L K J t O M N Y q;go_wp2_with fail;refine CA.o.mono ?_;rintro e w5 ⟨rfl,Z,a⟩;have X:=ycW y (d+1) (A.1,A.2) (fun _=>P);have H5:=zh3 Z a X;clear Z a X;go_wp2_with fail;go_roundg (x.list.length - (i+1))
     case measure=>have:=D.o.2.2.2;have:=R.o;omega
     case rel=>
      have T:=D.o.1;simp only[znl]at T;refine⟨i+1,_,by simp,(by have:=R.o;omega),rfl,H5.o.1,(D.o.2.2.1.alloc _).trans H5.o.2.1 (fun _ _ e=>e),T,(fun h=>⟨H5.o.2.2 h,z⟩),?_⟩;have:=H5.o.2.1.size;simp at this;omega
   .obtain rfl:i=ln:=by have:=R.o;omega
    rw[zns (by have:=R.o;omega),ya2]at E;have D:=zh3 E B L;clear E B L K J;go_wp2_with fail;have G:=D.o.1;subst G
    go_end0
    exact⟨rfl,D.o.2.1,D.o.2.2⟩
 .have t8:¬(8:Int)<=d:=by omega
  have Ai:¬(64:Int)<ln:=by omega
  go_wp2_with fail;have T1:=HT.o.1.keep (HT.o.2.2 _) (fun f=>f);have K1:=HT.o.2.1.alloc (.cells #[.int .i64 3,cn,cs,.slice (some ⟨g,off,none⟩) ln lc] 38);go_loopg [64] (x.list.length) (fun gk v64 wr=>ypY w b d x r gk v64 wr)
  case atStart=>exact⟨0,(p+1,(0:Int)),rfl,znq _,rfl,T1,K1,HR.o,(by intro h;first|(simp at h;done)|(constructor<;>omega)),by simp⟩
  case round=>
   clear T1 K1 c0 c1 f0;obtain⟨i,A,rfl,hi,K,B,L,E,J,Ad⟩:=hrel;have c0:=B.c0;have c1:=B.c1;have f0:=B.fr;have b1:=B.lt;by_cases hin:i<ln
   .obtain⟨y,N⟩:=yae (l:=x.list) (k:=i) (by have:=R.o;omega)
    obtain⟨m,hg,I,t,q0,q1,q2,q3⟩:=HE.o i y N;have U:g≠b:=fun e=>hF (e▸m);have Ae:g<wr:=by omega
    rw[<-L.cell (p:=⟨g,_,none⟩) hg U]at q0 q1 q2 q3;have M:x.list.drop i=y::x.list.drop (i+1):=by
     rw[znr (zge N).1,(zge N).2]
    rw[M,yaO]at E;have O:=t.keep L (fun g h e=>hF (e▸h));have u:y.parts<=n:=by
     have:=Val.parts_lt (v:=x) (zmg N);omega
    have Ab:(i:Int)<ln:=by omega
    cases hce:(A.2 !=0)with
    |true=>
     rw[hce]at E;have D:=zh3 E B L;clear E B L K J t O M N;go_wp2_with fail;have G:=D.o.1;simp only[znm]at G;subst G;exact zng (v:=.tuple #[]) (by simp only[results,Tryz.results99];go_simp) rfl ⟨rfl,D.o.2.1.keep (S:=fun _=>False) ((Keeps.refl _ _).alloc _) (fun f=>f),D.o.2.2.alloc _⟩
    |false=>
     rw[hce]at E;have V:A.2=0:=by simpa using hce
     obtain⟨P,z⟩:=J V;have D:=zh4 E B L K;have Y:=B.keep (S:=fun _=>False) ((Keeps.refl _ _).alloc (.cells #[I.kind,I.n,I.s,.slice I.la I.ln I.lc] 38)) (fun f=>f);have q:=O.keep (S:=fun _=>False) ((Keeps.refl _ _).alloc (.cells #[I.kind,I.n,I.s,.slice I.la I.ln I.lc] 38)) (fun _ _ f=>f);have CA:=zhd (HI.o y u b (d+1) A.1 A.2 I F _ Y q hF (by omega) (fun _=>P));clear E B L K J t O M N Y q;go_wp2_with fail;refine CA.o.mono ?_;rintro e w5 ⟨rfl,Z,a⟩;have X:=ycW y (d+1) (A.1,A.2) (fun _=>P);have H5:=zh3 Z a X;clear Z a X;go_wp2_with fail;go_roundg (x.list.length - (i+1))
     case measure=>have:=D.o.2.2.2;have:=R.o;omega
     case rel=>
      have T:=D.o.1;simp only[znl]at T;refine⟨i+1,_,by simp,(by have:=R.o;omega),rfl,H5.o.1,(D.o.2.2.1.alloc _).trans H5.o.2.1 (fun _ _ e=>e),T,(fun h=>⟨H5.o.2.2 h,z⟩),?_⟩;have:=H5.o.2.1.size;simp at this;omega
   .obtain rfl:i=ln:=by have:=R.o;omega
    rw[zns (by have:=R.o;omega),ya2]at E;have D:=zh3 E B L;clear E B L K J;go_wp2_with fail;have G:=D.o.1;subst G
    go_end0
    exact⟨rfl,D.o.2.1,D.o.2.2⟩
theorem yiO (x:Val)
  (b d p:Nat)(e:Int)(ck cn:Int)(cs:ByteArray)(la:Option Addr)(ln lc:Nat)(F:Nat->Prop)(w:World)(H:CX w b (p,e))(C:CF F w ⟨ck,cn,cs,la,ln,lc⟩ x)(hF:¬F b)(hd:d<=8)(hp:e=0->p<=256)(r:Nat×Int)(hr:yan x d (p,e)=r)
  (he:e=0)(h3:(x.kind==3)=true)(h2:¬256<=p)(hl:x.list=[])(hl0:ln=0):
  Calls Tryz.prog 99 #[.pointer (some ⟨b,0,none⟩),.agg #[ck,cn,cs,.slice la ln lc],d] w (yhV w b r)
  :=by
 have c:=hF;subst he;subst hl0;have a:=H.lt;have c0:=H.c0;have c1:=H.c1;have R:=H.fr;rw[ycc]at hr;have I:ck=x.kind:=C.kind;have M:cs=x.txt:=C.s;have Y:=zh2 H C;clear H C;dsimp only at c0 c1;simp only[bne_self_eq_false,znl]at hr;have hp:=hp rfl;have Q:(x.kind==0||x.kind==1)=false:=by have:=beq_iff_eq.1 h3;rw[this];rfl
 have P:(x.kind==2)=false:=by have:=beq_iff_eq.1 h3;rw[this];rfl
 have G:ck=3:=by rw[I];exact beq_iff_eq.1 h3
 subst G;rw[Q,P,h3]at hr;have E:decide (256<=p)=false:=by rw[znz];exact h2
 rw[E,hl,ya2]at hr;simp only[znl,znm]at hr;have Z:¬(256:Int)<(p:Int)+1:=by omega
 have T:=Y.o.1.set0 (p+1);have V:Keeps (fun j=>j=b) w (w.setCell ⟨b,0,none⟩ (.int .i64 ((p:Int)+1))):=Keeps.setCell (S:=fun j=>j=b) (p:=⟨b,0,none⟩) (Keeps.refl _ w) (.inl rfl) _;have U:∀W,Keeps (fun _=>False) W (W.alloc (.cells #[.int .i64 3,cn,cs,.slice la 0 lc] 38)):=fun W=>(Keeps.refl _ _).alloc _;have B:=zh3 T V U;clear T V U I M Q P h3 E h2;go_in;by_cases h8:8<=d
 .have X:(8:Int)<=d:=by omega
  have D:decide (8<=d)=true:=by rw[decide_eq_true_eq];exact h8
  rw[D]at hr;have L:=zhd hr;clear hr D;go_wp2_with fail;have J:=(B.o.1.set1 30).keep (B.o.2.2 _) (fun f=>f);have K:=(B.o.2.1.setCell (p:=⟨b,1,none⟩) (.inl rfl) (.int .i64 30)).alloc (.cells #[.int .i64 3,cn,cs,.slice la 0 lc] 38);go_loopg [64] (0) (fun _ v64 wr=>v64= .int .i64 0/\CX wr b (p+1,30)/\Keeps (fun j=>j=b) w wr)
  case atStart=>exact⟨rfl,J,K⟩
  case round=>
   obtain⟨rfl,N,O⟩:=hrel;have A:=L.o;simp only[znm]at A;subst A;clear c0 c1 R J K L;go_wp2_with fail
   go_end0
   exact⟨rfl,N,O⟩
 .have X:¬(8:Int)<=d:=by omega
  have D:decide (8<=d)=false:=by rw[znz];exact h8
  rw[D]at hr;have L:=zhd hr;clear hr D;go_wp2_with fail;have J:=B.o.1.keep (B.o.2.2 _) (fun f=>f);have K:=B.o.2.1.alloc (.cells #[.int .i64 3,cn,cs,.slice la 0 lc] 38);go_loopg [64] (0) (fun _ v64 wr=>v64= .int .i64 0/\CX wr b (p+1,0)/\Keeps (fun j=>j=b) w wr)
  case atStart=>exact⟨rfl,J,K⟩
  case round=>
   obtain⟨rfl,N,O⟩:=hrel;have A:=L.o;simp at A;subst A;clear c0 c1 R J K L;go_wp2_with fail
   go_end0
   exact⟨rfl,N,O⟩
theorem yhZ:∀(n:Nat) (x:Val),x.parts<=n->∀(b d p:Nat) (e:Int) (c:VC) (F:Nat->Prop) (w:World),CX w b (p,e)->CF F w c x->¬F b->d<=8->(e=0->p<=256)->
   Calls Tryz.prog 99 #[.pointer (some ⟨b,0,none⟩),.agg #[c.kind,c.n,c.s,.slice c.la c.ln c.lc],d] w (yhV w b (yan x d (p,e)))
 |0,x,hx,_,_,_,_,_,_,_,_,_,_,_,_=>by have:=x.parts_pos;omega
 |n+1,x,hx,b,d,p,e,⟨ck,cn,cs,la,ln,lc⟩,F,w,H,C,hF,hd,hp=>by
  cases he:(e !=0)with
  |true=>exact ylo x b d p e ck cn cs la ln lc F w H C hF hd hp _ rfl he
  |false=>
   have A:e=0:=by simpa using he
   by_cases h2:256<=p
   .exact yhY x b d p e ck cn cs la ln lc F w H C hF hd hp _ rfl A (.inr h2)
   .cases h3:(x.kind==3)with
    |false=>exact yhY x b d p e ck cn cs la ln lc F w H C hF hd hp _ rfl A (.inl h3)
    |true=>
     obtain⟨I,K,B⟩:=C.l.elems;rcases B with B|⟨g,D,E,G,J,B⟩
     .exact yiO x b d p e ck cn cs la ln lc F w H C hF hd hp _ rfl A h3 h2 B (by rw[show ln=x.list.length from I,B];rfl)
     .exact yjM n (fun y hy=>yhZ n y hy) x b d p e ck cn cs la ln lc F w H C hF hd hp _ rfl A h3 h2 hx g D ⟨I,K,fun i y hy=>⟨G,J,B i y hy⟩⟩ E
end Go.Proofs.YtpagmlndgblhhaaGreatDoor
namespace Go.Va
open Go.Own Go.RowKit
def ydF (c:UInt8):Value:=.int .u8 c.toNat
def yil:Nat->Nat->List UInt8
 |0,n=>[UInt8.ofNat n]
 |f+1,n=>bif decide (128<=n)then UInt8.ofNat (n%128+128)::yil f (n/128)else[UInt8.ofNat n]
def ycg (n:Nat):List UInt8:=yil 10 n
theorem yeg:∀(f n:Nat),n<128^ (f+1)->yil f n=yil (f+1) n
 |0,n,h=>by
  rw[yil,yil];have:decide (128<=n)=false:=by rw[znz];omega
  rw[this];rfl
 |f+1,n,h=>by
  rw[yil]
  conv=>rhs;rw[yil]
  cases hn:decide (128<=n)with
  |false=>rfl
  |true=>
   have A:n/128<128^ (f+1):=by
    rw[Nat.pow_succ]at h;exact Nat.div_lt_of_lt_mul (by rw[Nat.mul_comm];exact h)
   rw[yeg f _ A]
theorem yim {n:Nat}(h:128<=n)(hn:n<18446744073709551616):ycg n=UInt8.ofNat (n%128+128)::ycg (n/128):=by
 unfold ycg;rw[yil];have A:decide (128<=n)=true:=by rw[decide_eq_true_eq];exact h
 rw[A,yeg 9 (n/128) (by omega)];rfl
theorem yfb {n:Nat}(h:n<128):ycg n=[UInt8.ofNat n]:=by
 unfold ycg;rw[yil];have A:decide (128<=n)=false:=by rw[znz];omega
 rw[A];rfl
theorem yik:∀f n,(yil f n).length<=f+1
 |0,n=>by rw[yil];exact znc _
 |f+1,n=>by
  rw[yil];cases decide (128<=n)with
  |true=>have:=yik f (n/128);simp;omega
  |false=>simp
theorem ybJ (n:Nat):(ycg n).length<=11:=yik 10 n
def zigL (n:Int):Nat:=if 0<=n then(2*n).toNat else(-2*n - 1).toNat
def textB (s:List UInt8):List UInt8:=ycg s.length++s
theorem yeN {P:Program}{w:World}(t u ty e:TypeId)(ht:P.underlying t=some (.slice e))(hu:P.underlying u=some .string)(hi:(P.info? e).map (fun i=>(i.zero,i.size,i.bytes))=some (some (.int .u8 0),1,1))
  {v:Value}{xs:List UInt8}(h:RowAt w e v xs)(s:ByteArray)(hb:xs.length+s.size<=1099511627776):
  ∃v' w',(Builtin.append_ #[t,u] ty #[v,.string s]).run P w= .ok v' w'/\RowAt w' e v' (xs++s.data.toList)/\Keeps (fun j=>v.ownBlock=some j) w w'/\(∀g,v'.ownBlock=some g->v.ownBlock=some g\/w.heap.size<=g):=by
 obtain⟨i,hi,Y,I,Q⟩:=info_parts hi;have U:∀l:List UInt8,l.flatMap (Cells.enc (α:=UInt8))=l.map ydF:=fun l=>by
  induction l with
  |nil=>rfl
  |cons x r ih=>rw[List.flatMap_cons,ih];rfl
 have X:Lib.strCells s=s.data.toList.map ydF:=rfl;have D:s.data.toList.length=s.size:=by simp
 have F:∀(C:Nat),C<xs.length+s.size->
   RowAt (w.drew.alloc (.cells ((xs.map ydF).toArray++(Lib.strCells s).toArray++Builtin.zeroCells (Value.int .u8 0).cells (grownCap w (xs.length+s.size) C e - (xs.length+s.size))) e)) e
    (.slice (some ⟨w,0,none⟩) (xs.length+s.size) (grownCap w (xs.length+s.size) C e)) (xs++s.data.toList):=by
  intro C z;have W:=grownCap_ge w (xs.length+s.size) C e;have K:grownCap w (xs.length+s.size) C e<=maxLen:=grownCap_le_maxLen w _ C e (by unfold maxLen;omega);refine .inr ⟨w.heap.size,0,_,_,by simp[D],znb w.drew _,by simpa[D]using W,K,?_,?_⟩
  .have V:(Value.int IntKind.u8 0).cells.size=1:=rfl
   simp only[Array.size_append,List.size_toArray,size_zeroCells,V,zmd,X,D,Cells.sz];omega
  .intro j u hu
   rw[U,List.map_append]at hu;have J:=(zge hu).1;rw[Nat.zero_add,Array.getElem?_append_left (by simpa[X]using J)];simpa[X]using hu
 rcases h with⟨rfl,rfl⟩|⟨g,A,B,S,rfl,H,k,K,O,E⟩
 .by_cases hm:s.size=0
  .have m:s.data.toList=[]:=List.eq_nil_of_length_eq_zero (by rw[D];exact hm)
   have T:=Lib.run_firstCells_string (P:=P) w 1 s;rw[hm]at T;refine⟨.slice none 0 0,w,?_,by rw[m];exact RowAt.nil w e,Keeps.refl _ _,fun g H=>.inl H⟩;simp[Builtin.append_,run_underlying ht,run_underlying hu,sizeOf,typeInfo,hi,I,Builtin.lenOf,hm,T]
  .have L:=run_append_nil_string (P:=P) (w:=w) t u ty e i (.int .u8 0) ht hu hi Y s (by omega) (by simp at hb;omega) (by rw[Q];simp at hb;omega)
   have G:=F 0 (by simp;omega);simp only[List.length_nil,List.map_nil,Array.empty_append,Nat.zero_add,List.nil_append]at G|-;have n:(s.data.map fun b=>Value.int .u8 b.toNat)=(Lib.strCells s).toArray:=by
    apply Array.ext';simp[Lib.strCells]
   rw[n]at L;exact⟨_,_,L,G,(Keeps.refl _ _).drew.alloc _,fun g H=>.inr (by simp[Value.ownBlock]at H;omega)⟩
 .by_cases hroom:xs.length+s.size<=B
  .have Z:A+B<=S.size:=by simpa[Cells.sz]using O
   have hl:(Lib.strCells s).length=s.size:=Lib.strCells_length s;have M:=run_storeCells_cells (P:=P) g (A+xs.length) (Lib.strCells s) 0 w (fun j hj=>by rw[zch H];simp;omega) (fun j _=>zfr H _) (Lib.strCells_oneCell s);simp only[Nat.add_zero]at M;have T:=Lib.run_firstCells_string (P:=P) w 1 s;have L:(Builtin.append_ #[t,u] ty #[.slice (some ⟨g,A,none⟩) xs.length B,.string s]).run P w= .ok (.slice (some ⟨g,A,none⟩) (xs.length+s.size) B) (w.setCells g (A+xs.length) (Lib.strCells s)):=by
    simp[Builtin.append_,run_underlying ht,run_underlying hu,sizeOf,typeInfo,hi,I,Builtin.lenOf,hroom,T,Addr.add_lit,M]
   obtain⟨R,f,d,c,a⟩:=ybH g e (0,0) (Lib.strCells s) (A+xs.length) w S H;obtain⟨y,q,p,o⟩:=ybG g (Lib.strCells s) (A+xs.length) w;refine⟨_,_,L,.inr ⟨g,A,B,R,by simp[D],f,by simpa[D]using hroom,K,by rw[d];exact O,fun j u hu=> ?_⟩,(Keeps.refl (fun j=>(Value.slice (some ⟨g,A,none⟩) xs.length B).ownBlock=some j) _).setCells (.inl rfl) _ _,fun g' hg'=>.inl hg'⟩;rw[U,List.map_append]at hu;by_cases hj:j<xs.length
   .rw[List.getElem?_append_left (by simpa using hj)]at hu
    rw[a _ (by left;omega)];exact E j u (by rw[U];exact hu)
   .rw[List.getElem?_append_right (by simpa using hj)]at hu
    simp only[zmd]at hu;have J:=(zge hu).1;simp only[zmd,D]at J;have:=c _ u hu (by omega);rw[<-this];congr 1;omega
  .have N:∀j u,(xs.map ydF)[j]? =some u->w.cell? ((⟨g,A,none⟩:Addr).add j)=some u:=by
    intro j u hu;rw[Addr.add_lit,zch H];exact E j u (by rw[U];exact hu)
   have L:=Lib.run_append_grow_string (P:=P) w t u ty e i (.int .u8 0) ht hu hi Y ⟨g,A,none⟩ xs.length B (xs.map ydF) (by rw[I];simp) N s (by omega) (by omega) (by rw[Q];exact growslice_fits (by omega) (by omega));have G:=F B (by omega);exact⟨_,_,L,G,(Keeps.refl _ _).drew.alloc _,fun g' hg'=>.inr (by simp[Value.ownBlock]at hg';omega)⟩
end Go.Va
namespace Go.Proofs.YtpagmlndgblhhaaGreatDoor
open Go.RowKit Go.Own Go.Own.MapTy Go.Va Go.Sort
open Go.Own.Cells (sz enc)
def WB (W:World)(b:Nat)(l:List UInt8):Prop:=
 ∃a cap,W.heap[b]? =some (.cells #[.slice a l.length cap] 131 (0,0))/\RowAt W 5 (.slice a l.length cap) l/\(Value.slice a l.length cap).ownBlock≠some b
def yce (W:World)(b j:Nat):Prop:=∃v,W.heap[b]? =some (.cells #[v] 131 (0,0))/\v.ownBlock=some j
def WK (b:Nat)(W W':World):Prop:=Keeps (fun j=>j=b\/yce W b j) W W'/\∀j,yce W' b j->yce W b j\/W.heap.size<=j
theorem WK.refl (b:Nat)(W:World):WK b W W:=⟨Keeps.refl _ _,fun _ h=>.inl h⟩
theorem WK.trans {b:Nat}{W W' W'':World}(h:WK b W W')(k:WK b W' W''):WK b W W'':=by
 refine⟨h.1.trans k.1 (fun j hj e=> ?_),fun j hj=> ?_⟩
 .rcases e with e|e
  .exact .inl e
  .rcases h.2 j e with A|A
   .exact .inr A
   .omega
 .rcases k.2 j hj with A|A
  .exact h.2 j A
  .exact .inr (znf h.1.size A)
theorem WK.ext {b:Nat}{W W':World}(hb:b<W)(K:Below W W W'):WK b W W':=
 ⟨(zkb (S:=fun _=>False) K).mono (fun _ _ f=>f.elim),fun j ⟨v,h1,h2⟩=>.inl ⟨v,by rw[<-K.block b hb];exact h1,h2⟩⟩
theorem WB.lt {W:World}{b:Nat}{l:List UInt8}(h:WB W b l):b<W:=by obtain⟨a,B,A,_⟩:=h;exact zlt A
theorem WB.row {W:World}{b:Nat}{l:List UInt8}(h:WB W b l){j:Nat}(hj:yce W b j):j≠b/\j<W:=by
 obtain⟨a,F,E,D,C⟩:=h;obtain⟨v,B,A⟩:=hj;rw[E]at B;cases B;exact⟨fun e=>C (e▸A),D.lt A⟩
theorem WB.alloc {W:World}{b:Nat}{l:List UInt8}(h:WB W b l)(o:Obj):WB (W.alloc o) b l/\WK b W (W.alloc o):=by
 refine⟨?_,WK.ext h.lt (zal)⟩;obtain⟨a,A,B,D,C⟩:=h;exact⟨a,A,(zne _ _ _ (zlt B)).trans B,D.alloc _,C⟩
theorem WK.cell {b:Nat}{W W':World}(K:WK b W W'){g o:Nat}(hg:g<W)(hn:g≠b)(hr:¬yce W b g):W'.cell? ⟨g,o,none⟩=W.cell? ⟨g,o,none⟩:=
 K.1.cell (p:=⟨g,o,none⟩) hg (fun e=>e.elim hn hr)
theorem WB.stored {W w':World}{b:Nat}{l l0:List UInt8}{a a1:Option Addr}{cap q1 n:Nat}(hn:n=l.length)(h1:W.heap[b]? =some (.cells #[.slice a l0.length cap] 131 (0,0)))(h3:(Value.slice a l0.length cap).ownBlock≠some b)
  (hr:RowAt w' 5 (.slice a1 n q1) l)(K:Keeps (fun j=>(Value.slice a l0.length cap).ownBlock=some j) W w')(hf:∀g,(Value.slice a1 n q1).ownBlock=some g->(Value.slice a l0.length cap).ownBlock=some g\/W.heap.size<=g):
  WB (w'.setCell ⟨b,0,none⟩ (.slice a1 n q1)) b l/\WK b W (w'.setCell ⟨b,0,none⟩ (.slice a1 n q1)):=by
 subst hn;have C:=zlt h1;have E:w'.heap[b]? =some (.cells #[.slice a l0.length cap] 131 (0,0)):=(K.block b C h3).trans h1;have B:(w'.setCell ⟨b,0,none⟩ (.slice a1 l.length q1)).heap[b]? =some (.cells #[.slice a1 l.length q1] 131 (0,0)):=by simp[World.setCell,zni,E]
 have A:(Value.slice a1 l.length q1).ownBlock≠some b:=fun e=>by
  rcases hf b e with h|h
  .exact h3 h
  .omega
 refine⟨⟨a1,q1,B,hr.keep (Keeps.setCell (S:=fun j=>j=b) (p:=⟨b,0,none⟩) (Keeps.refl _ _) (.inl rfl) _) (fun g hg e=>A (e▸hg)),A⟩,?_,fun j hj=> ?_⟩
 .exact(K.mono (fun j _ e=>.inr ⟨_,h1,e⟩)).setCell (p:=⟨b,0,none⟩) (.inl (.inl rfl)) _
 .obtain⟨v,D,F⟩:=hj
  rw[B]at D;cases D;rcases hf j F with h|h
  .exact .inl ⟨_,h1,h⟩
  .exact .inr h
theorem yoA:(Tryz.prog.info? 5).map (fun i=>(i.zero,i.size,i.bytes))=some (some (.int .u8 0),1,1):=by kernel_rfl
theorem ymQ {W:World}{ops:Array Oper}{rest:List Oper}{o:Oper}{a:Act}{Q:Exit->Act->World->Prop}(hg:o.guard=none)(s x:Operand)
  (hop:o.op=Op.call {callee:=Callee.builtin Builtin.append,args:=#[s,x],argTypes:=#[55,9]})
  {l:List UInt8}{v:Value}(ho:RowAt W 5 v l)(hs:a.eval s=v)
  (ys:ByteArray)(hx:a.eval x= .string ys)(hl:l.length+ys.size<=1099511627776)
  (hK:∀a1 q1 w',RowAt w' 5 (.slice a1 (l.length+ys.size) q1) (l++ys.data.toList)->Keeps (fun j=>v.ownBlock=some j) W w'->(∀g,(Value.slice a1 (l.length+ys.size) q1).ownBlock=some g->v.ownBlock=some g\/W.heap.size<=g)->wpList Tryz.prog ops Q rest (a.put o.dst (.slice a1 (l.length+ys.size) q1)) w'):wpList Tryz.prog ops Q (o::rest) a W:=
 wpList_plain hg fun _ hk=>by
  obtain⟨F,w',D,A,C,B⟩:=yeN (P:=Tryz.prog) 55 9 o.type 5 Tryz.underlying55 Tryz.underlying9 yoA ho ys hl;obtain⟨a1,q1,rfl⟩:=A.slice;have E:(l++ys.data.toList).length=l.length+ys.size:=by simp
  rw[E]at D A B;unfold Oper.wp execOp;simp only[hop,resolve,invoke,builtin,Sem.run_bind,Sem.run_pure,Result.andThen_ok,List.map_toArray,List.map_cons,List.map_nil,hs,hx,D];exact hk _ _ (hK a1 q1 w' A C B)
theorem ygX {W:World}{ops:Array Oper}{rest:List Oper}{o:Oper}{a:Act}{Q:Exit->Act->World->Prop}(hg:o.guard=none)(s x:Operand)
  (hop:o.op=Op.call {callee:=Callee.builtin Builtin.append,args:=#[s,x],argTypes:=#[55,55]})
  {l:List UInt8}{v:Value}(ho:RowAt W 5 v l)(hs:a.eval s=v)
  (ad:Addr)(c:Nat)(ys:List UInt8)(hx:a.eval x= .slice (some ad) ys.length c)(hc:∀j u,(ys.flatMap Cells.enc)[j]? =some u->W.cell? (ad.add j)=some u)(hl:l.length+ys.length<=1099511627776)
  (hK:∀a1 q1 w',RowAt w' 5 (.slice a1 (l.length+ys.length) q1) (l++ys)->Keeps (fun j=>v.ownBlock=some j) W w'->(∀g,(Value.slice a1 (l.length+ys.length) q1).ownBlock=some g->v.ownBlock=some g\/W.heap.size<=g)->wpList Tryz.prog ops Q rest (a.put o.dst (.slice a1 (l.length+ys.length) q1)) w'):wpList Tryz.prog ops Q (o::rest) a W:=by
 obtain⟨i,E,H,G,F⟩:=info_parts yoA;refine ycV hg s x 55 hop 5 i (.int .u8 0) 1 Tryz.underlying55 E H (by rw[G];rfl) F rfl v l hs ho ad ys.length c ys hx rfl hc (by omega) (by unfold maxLen;omega) ?_;intro I D C A B;obtain⟨a1,q1,rfl⟩:=C.slice;rw[znk]at*;exact hK a1 q1 D C (Keeps.of_grown A (fun k h=>h)) (fun g h=>(B g h).imp id (fun h=>h.1))
def WPB (w:World)(b:Nat)(l:List UInt8)(e:Ending)(w':World):Prop:=e= .returned (.tuple #[])/\Hid (WB w' b l/\WK b w w')
theorem yji {w:World}{nb:Nat}{ys:List UInt8}(hc:∀j u,(ys.map ydF)[j]? =some u->w.cell? ⟨nb,j,none⟩=some u):∀j u,(ys.flatMap Cells.enc)[j]? =some u->w.cell? ((⟨nb,0,none⟩:Addr).add j)=some u:=by
 have B:∀l:List UInt8,l.flatMap (Cells.enc (α:=UInt8))=l.map ydF:=fun l=>by
  induction l with
  |nil=>rfl
  |cons x r ih=>rw[List.flatMap_cons,ih];rfl
 intro j u A;rw[Addr.add_lit,Nat.zero_add];exact hc j u (by rw[<-B];exact A)
set_option maxHeartbeats 4000000 in
theorem ydL (b:Nat)(l ys:List UInt8)(nb c:Nat)(w:World)(H:WB w b l)(hc:∀j u,(ys.map ydF)[j]? =some u->w.cell? ⟨nb,j,none⟩=some u)(hl:l.length+ys.length<=1099511627776):
  Calls Tryz.prog 105 #[.pointer (some ⟨b,0,none⟩),.slice (some ⟨nb,0,none⟩) ys.length c] w (WPB w b (l++ys)):=by
 obtain⟨a,F,E,K,B⟩:=H;have M:=zlt E;have c0:=zca E 0 rfl;have L:∀o,w.frozen? ⟨b,o,none⟩=false:=fun o=>zfr E o;have A:=zh4 E K B (yji hc);clear E K hc B;go_in;go_wp2_with (at_builtin;go_must (refine ygX rfl (.tmp 8) (.tmp 9) rfl A.o.2.1 rfl ⟨nb,0,none⟩ c ys rfl A.o.2.2.2 hl ?_);intro O N G I C J;have D:G.heap[b]? =some (.cells #[.slice a l.length F] 131 (0,0)):=(C.block b M A.o.2.2.1).trans A.o.1;have c0:G.cell? ⟨b,0,none⟩=some (.slice a l.length F):=by{rw[zch D];rfl};have L:∀o,G.frozen? ⟨b,o,none⟩=false:=fun o=>zfr D o)
 go_end0
 exact⟨rfl,zhd (WB.stored (by simp) A.o.1 A.o.2.2.1 I C J)⟩
theorem ynk (b:Nat)(l:List UInt8)(w:World)(H:WB w b l):Calls Tryz.prog 100 #[.pointer (some ⟨b,0,none⟩)] w fun e w'=>e= .returned (.int .i64 l.length)/\w'=w:=by
 obtain⟨a,D,B,C,A⟩:=H;have c0:=zca B 0 rfl;clear B C A;go_in;go_wp2;go_ret;exact⟨rfl,rfl⟩
theorem ypx (m:Nat):bits BinOp.or IntKind.u8 ((m:Int)%256) 128=(((UInt8.ofNat (m%128+128)).toNat:Nat):Int):=by
 have h:∀k:Fin 256,bits BinOp.or IntKind.u8 (k.val:Int) 128=((k.val%128+128:Nat):Int):=by decide+kernel
 have A:=h ⟨m%256,by omega⟩;rw[show((m:Int)%256)=((m%256:Nat):Int)from by omega,A];rw[UInt8.toNat_ofNat_of_lt' (by show m%128+128<256;omega)];show((m%256%128+128:Nat):Int)=_;omega
theorem yos {m:Nat}(h:m<128):((m:Int)%256)=(((UInt8.ofNat m).toNat:Nat):Int):=by
 rw[UInt8.toNat_ofNat_of_lt' (by show m<256;omega)];omega
theorem ygi (wr:World)(x:Int)(y:UInt8)(t:TypeId)(h:x=(y.toNat:Int)):∀j u,([y].flatMap Cells.enc)[j]? =some u->(wr.alloc (.cells #[.int .u8 x] t)).cell? ((⟨wr,0,none⟩:Addr).add j)=some u:=by
 intro j u A;rw[Addr.add_lit,zch (znb wr _),Nat.zero_add];cases j with
 |zero=>rw[h];simpa[Cells.enc]using A
 |succ j=>simp at A;exact absurd A (by simp[Cells.enc])
def N1 (w:World)(b:Nat)(l:List UInt8)(n nb:Nat)(gk:Nat)(v8:Value)(wr:World):Prop:=
 (v8= .int .i64 0/\gk=1/\WB wr b l/\wr.cell? ⟨nb,0,none⟩=some (.int .u64 n)/\WK b w wr)\/(v8= .int .i64 1/\gk=0/\WB wr b (l++ycg n)/\WK b w wr)
def N2 (w:World)(b:Nat)(l:List UInt8)(n:Nat)(gk:Nat)(v5:Value)(wr:World):Prop:=
 ∃(m:Nat) (l1:List UInt8),v5= .int .u64 m/\gk=m/\m<18446744073709551616/\WB wr b l1/\l1++ycg m=l++ycg n/\WK b w wr
set_option maxHeartbeats 4000000 in
theorem yhs (b:Nat)(l:List UInt8)(n nb c:Nat)(w:World)(H:WB w b l)(hc:w.cell? ⟨nb,0,none⟩=some (.int .u64 n))(hn:n<18446744073709551616)(hl:l.length+12<=1099511627776):
  Calls Tryz.prog 103 #[.pointer (some ⟨b,0,none⟩),.slice (some ⟨nb,0,none⟩) 1 c] w (WPB w b (l++ycg n)):=by
 have W:=zh3 H hc hn;clear H hc hn;go_in;go_wp2_with fail;go_loopg [8] (1) (fun gk v8 wr=>N1 w b l n nb gk v8 wr)
 case atStart=>exact .inl ⟨rfl,rfl,W.o.1,W.o.2.1,WK.refl _ _⟩
 case round=>
  rcases hrel with⟨rfl,A,P,hc,E⟩|⟨rfl,A,P,E⟩
  .have Q:=zh3 P E A
   obtain⟨X,rfl⟩:∃X:World,X=wr:=⟨_,rfl⟩;clear P E A;go_wp2_with fail;go_loopg [5] (n) (fun gk v5 wr=>N2 w b l n gk v5 wr)
   case atStart=>exact⟨n,l,rfl,rfl,W.o.2.2,Q.o.1,rfl,Q.o.2.1⟩
   case round=>
    clear hc;obtain⟨m,I,rfl,A,hm,⟨a,F,N,T,K⟩,M,E⟩:=hrel;have O:=zlt N;have c0:=zca N 0 rfl;have Y:∀o,wr.frozen? ⟨b,o,none⟩=false:=fun o=>zfr N o;have B:=zh6 N T K E hm A;by_cases h128:128<=m
    .have d:(128:Int)<=m:=by omega
     rw[yim h128 hm]at M;have R:=zhd M;clear N T K E M A hm;have V:=zhd (show I.length+[UInt8.ofNat (m%128+128)].length<=1099511627776 from by
      have h:=congrArg List.length R.o;have:=ybJ n;simp at h|-;omega)
     go_wp2_with (at_builtin;go_must (refine ygX rfl (.tmp 18) (.tmp 22) rfl (B.o.2.1.alloc _) rfl ⟨wr,0,none⟩ 1 [UInt8.ofNat (m%128+128)] rfl (ygi _ _ _ _ (ypx m)) V.o ?_);intro e Z G J C L;have D:G.heap[b]? =some (.cells #[.slice a I.length F] 131 (0,0)):=(C.block b (by simp;omega) B.o.2.2.1).trans ((zne _ _ _ O).trans B.o.1);have c0:G.cell? ⟨b,0,none⟩=some (.slice a I.length F):=by{rw[zch D];rfl};have Y:∀o,G.frozen? ⟨b,o,none⟩=false:=fun o=>zfr D o);have S:=WB.stored (by simp) ((zne _ _ _ O).trans B.o.1) B.o.2.2.1 J C L;have U:=B.o.2.2.2.1.trans ((WK.ext O ((znv _ _).alloc (znc _) (.cells #[.int .u8 (bits BinOp.or IntKind.u8 ((m:Int)%256) 128)] 5))).trans S.2);go_roundg (m/128)
     case measure=>have:=B.o.2.2.2.2.2;omega
     case rel=>exact⟨m/128,I++[UInt8.ofNat (m%128+128)],by simp,rfl,(by have:=B.o.2.2.2.2.1;omega),S.1,(by rw[List.append_assoc];exact R.o),U⟩
    .have d:¬(128:Int)<=m:=by omega
     rw[yfb (by omega)]at M;have R:=zhd M;clear N T K E M A hm;have V:=zhd (show I.length+[UInt8.ofNat m].length<=1099511627776 from by
      have h:=congrArg List.length R.o;have:=ybJ n;simp at h|-;omega)
     have f:=zhd (show(m:Int)=(((UInt8.ofNat m).toNat:Nat):Int)from by have:=yos (m:=m) (by omega);omega);go_wp2_with (at_builtin;go_must (refine ygX rfl (.tmp 32) (.tmp 35) rfl (B.o.2.1.alloc _) rfl ⟨wr,0,none⟩ 1 [UInt8.ofNat m] rfl (ygi _ _ _ _ f.o) V.o ?_);intro e Z G J C L;have D:G.heap[b]? =some (.cells #[.slice a I.length F] 131 (0,0)):=(C.block b (by simp;omega) B.o.2.2.1).trans ((zne _ _ _ O).trans B.o.1);have c0:G.cell? ⟨b,0,none⟩=some (.slice a I.length F):=by{rw[zch D];rfl};have Y:∀o,G.frozen? ⟨b,o,none⟩=false:=fun o=>zfr D o);have S:=WB.stored (by simp) ((zne _ _ _ O).trans B.o.1) B.o.2.2.1 J C L;have U:=B.o.2.2.2.1.trans ((WK.ext O ((znv _ _).alloc (znc _) (.cells #[.int .u8 (m:Int)] 5))).trans S.2);rw[R.o]at S;go_roundg (0)
     case measure=>have:=Q.o.2.2;omega
     case rel=>exact .inr ⟨rfl,rfl,S.1,U⟩
  .have Q:=zh2 P E
   clear P E;go_wp2_with fail
   go_end0
   exact⟨rfl,Q⟩
theorem ygW (x:Int):IntKind.u64.wrap x=x%18446744073709551616:=by
 simp[IntKind.wrap,IntKind.bits,IntKind.signed]
theorem yll (a:Nat)(h:a<18446744073709551616):a^^^18446744073709551615=18446744073709551615 - a:=by
 have B:(BitVec.ofNat 64 a).toNat=a:=by simp;omega
 have A:=BitVec.toNat_not (x:=BitVec.ofNat 64 a);rw[BitVec.not_def,BitVec.toNat_xor,B,BitVec.toNat_allOnes,Nat.xor_comm]at A;exact A
theorem ymO (n:Int)(h0: -9223372036854775808<=n)(h1:n<=9223372036854775807)(w:World):Calls Tryz.prog 104 #[n] w fun e w'=>e= .returned (.int .u64 (zigL n))/\w'=w:=by
 by_cases hn:0<=n
 .have A:bits BinOp.xor IntKind.u64 (n*2) (n/9223372036854775808)=zigL n:=by
   obtain⟨m,rfl⟩:=Int.eq_ofNat_of_zero_le hn;have C:((m:Int)/9223372036854775808)=((0:Nat):Int):=by omega
   have B:((m:Int)*2)=((m*2:Nat):Int):=by omega
   rw[C,B,bits_xor_u64_nat _ _ (by omega) (by omega),Nat.xor_zero];unfold zigL;rw[if_pos hn];omega
  have D:=zhd A;clear A;go_in;go_wp2;go_ret;exact⟨by rw[D.o];rfl,rfl⟩
 .have A:bits BinOp.xor IntKind.u64 (IntKind.u64.wrap (IntKind.u64.wrap n*2)) (IntKind.u64.wrap (n/9223372036854775808))=zigL n:=by
   have C:IntKind.u64.wrap (IntKind.u64.wrap n*2)=((2*n+18446744073709551616).toNat:Int):=by
    rw[ygW,ygW];omega
   have B:IntKind.u64.wrap (n/9223372036854775808)=((18446744073709551615:Nat):Int):=by
    rw[ygW];omega
   rw[C,B,bits_xor_u64_nat _ _ (by omega) (by omega),yll _ (by omega)];unfold zigL;rw[if_neg hn];omega
  have D:=zhd A;clear A;go_in;go_wp2;go_ret;exact⟨by rw[D.o];rfl,rfl⟩
set_option maxHeartbeats 4000000 in
theorem yjJ (b:Nat)(l:List UInt8)(s:ByteArray)(w:World)(H:WB w b l)(hl:l.length+s.size+12<=1099511627776):
  Calls Tryz.prog 62 #[.pointer (some ⟨b,0,none⟩),s] w (WPB w b (l++textB s.data.toList)):=by
 have W:=H.lt;have M:=zhd H;clear H;have L:=zhd (yhs b l s.size w.heap.size 1 (w.alloc (.cells #[.int .u64 s.size] 188)) (M.o.alloc _).1 (by rw[zch (znb _ _)];rfl) (by omega) (by omega));go_in;go_wp2_with fail;refine L.o.mono ?_;rintro e O ⟨rfl,N⟩;obtain⟨a,F,E,K,B⟩:=N.o.1;have R:=zlt E;have c0:=zca E 0 rfl;have P:∀o,O.frozen? ⟨b,o,none⟩=false:=fun o=>zfr E o;have U:=zhd (show(l++ycg s.size).length+s.size<=1099511627776 from by have:=ybJ s.size;simp;omega);have A:=zh4 E K B N.o.2;clear E K L B;generalize hl1:l++ycg s.size=l1 at*;have T:=zhd hl1;clear hl1;go_wp2_with (at_builtin;go_must (refine ymQ rfl (.tmp 14) (.tmp 15) rfl A.o.2.1 rfl s rfl U.o ?_);intro X V G I C J;have D:G.heap[b]? =some (.cells #[.slice a l1.length F] 131 (0,0)):=(C.block b R A.o.2.2.1).trans A.o.1;have c0:G.cell? ⟨b,0,none⟩=some (.slice a l1.length F):=by{rw[zch D];rfl};have P:∀o,G.frozen? ⟨b,o,none⟩=false:=fun o=>zfr D o);have S:=WB.stored (by simp) A.o.1 A.o.2.2.1 I C J
 go_end0
 have Q:l++textB s.data.toList=l1++s.data.toList:=by
  unfold textB;rw[<-T.o,List.append_assoc];simp
 exact⟨rfl,zhd ⟨by rw[Q];exact S.1,((M.o.alloc _).2.trans A.o.2.2.2).trans S.2⟩⟩
def I1 (w:World)(b:Nat)(l:List UInt8)(n:Int)(nb:Nat)(gk:Nat)(v8:Value)(wr:World):Prop:=
 (v8= .int .i64 0/\gk=1/\WB wr b l/\wr.cell? ⟨nb,0,none⟩=some (.int .i64 n)/\WK b w wr)\/(v8= .int .i64 1/\gk=0/\WB wr b (l++ycg (zigL n))/\WK b w wr)
theorem yjI {n:Int}(h0: -9223372036854775808<=n)(h1:n<=9223372036854775807):zigL n<18446744073709551616:=by
 unfold zigL;split<;>omega
set_option maxHeartbeats 4000000 in
theorem ynv (b:Nat)(l:List UInt8)(n:Int)(nb c:Nat)(w:World)(H:WB w b l)(hc:w.cell? ⟨nb,0,none⟩=some (.int .i64 n))(h0: -9223372036854775808<=n)(h1:n<=9223372036854775807)(hl:l.length+12<=1099511627776):
  Calls Tryz.prog 59 #[.pointer (some ⟨b,0,none⟩),.slice (some ⟨nb,0,none⟩) 1 c] w (WPB w b (l++ycg (zigL n))):=by
 have D:=zh4 H hc h0 h1;clear H hc h0 h1;go_in;go_wp2_with fail;go_loopg [8] (1) (fun gk v8 wr=>I1 w b l n nb gk v8 wr)
 case atStart=>exact .inl ⟨rfl,rfl,D.o.1,D.o.2.1,WK.refl _ _⟩
 case round=>
  rcases hrel with⟨rfl,A,B,hc,E⟩|⟨rfl,A,B,E⟩
  .have L:=B.lt
   have C:=zh3 B E A;have I:=zhd (yhs b l (zigL n) wr.heap.size 1 (wr.alloc (.cells #[.int .u64 (zigL n)] 188)) (C.o.1.alloc _).1 (by rw[zch (znb _ _)];rfl) (yjI D.o.2.2.1 D.o.2.2.2) hl);have G:=zhd (ymO n D.o.2.2.1 D.o.2.2.2 wr);clear B E A;go_wp2_with fail;refine G.o.mono ?_;rintro e K ⟨rfl,rfl⟩;go_wp2_with fail;refine I.o.mono ?_;rintro e J ⟨rfl,F⟩;clear hc;go_wp2_with fail;go_roundg (0)
   case measure=>have:=C.o.2.2;omega
   case rel=>exact .inr ⟨rfl,rfl,F.o.1,(C.o.2.1.trans (C.o.1.alloc _).2).trans F.o.2⟩
  .have C:=zh2 B E
   clear B E;go_wp2_with fail
   go_end0
   exact⟨rfl,C⟩
end Go.Proofs.YtpagmlndgblhhaaGreatDoor
