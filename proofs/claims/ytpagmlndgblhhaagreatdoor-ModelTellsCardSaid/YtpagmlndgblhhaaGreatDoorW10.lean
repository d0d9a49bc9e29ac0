/- Parts of the proof: what the functions and the plain laws give that later parts lean on. Conditions: none beyond those that each theorem names. -/
import Derived.Test.YtpagmlndgblhhaaGreatDoorW8
set_option maxRecDepth 100000
set_option maxHeartbeats 8000000
namespace Go.Va
open Go.Own Go.RowKit
open Cells (sz enc)
class Elt (α:outParam Type) (β:Type) [Cells α] where
 rel:(Nat->Prop)->World->α->β->Prop
 keep:∀{F S:Nat->Prop} {w w':World} {c:α} {x:β},rel F w c x->Keeps S w w'->(∀g,F g->¬S g)->rel F w' c x
 mono:∀{F G:Nat->Prop} {w:World} {c:α} {x:β},rel F w c x->(∀g,F g->g<w.heap.size->G g)->rel G w c x
instance:Elt VC Val where
 rel:=CF
 keep:=CF.keep
 mono:=CF.mono
structure TC where
 id:Int
 over:Bool
 v:VC
 how:Int
instance:Cells TC where
 sz:=7
 enc:=fun c=>[.int .i64 c.id,.bool c.over,.int .i64 c.v.kind,.int .i64 c.v.n,.string c.v.s,.slice c.v.la c.v.ln c.v.lc,.int .i64 c.how]
 len:=fun _=>rfl
 one:=by
  intro x v hv;simp at hv;rcases hv with rfl|rfl|rfl|rfl|rfl|rfl|rfl<;>rfl
structure TF (F:Nat->Prop)(w:World)(c:TC)(x:Th):Prop where
 id:c.id=x.id
 over:c.over=x.over
 v:CF F w c.v x.result
 how:c.how=x.how
instance:Elt TC Th where
 rel:=TF
 keep:=fun h K hs=>⟨h.id,h.over,h.v.keep K hs,h.how⟩
 mono:=fun h hs=>⟨h.id,h.over,h.v.mono hs,h.how⟩
structure LC where
 name:ByteArray
 v:VC
instance:Cells LC where
 sz:=5
 enc:=fun c=>[.string c.name,.int .i64 c.v.kind,.int .i64 c.v.n,.string c.v.s,.slice c.v.la c.v.ln c.v.lc]
 len:=fun _=>rfl
 one:=by
  intro x v hv;simp at hv;rcases hv with rfl|rfl|rfl|rfl|rfl<;>rfl
structure LF (F:Nat->Prop)(w:World)(c:LC)(x:Lt):Prop where
 name:c.name=x.name
 v:CF F w c.v x.v
instance:Elt LC Lt where
 rel:=LF
 keep:=fun h K hs=>⟨h.name,h.v.keep K hs⟩
 mono:=fun h hs=>⟨h.name,h.v.mono hs⟩
structure CC where
 kind:Int
 time:Int
 a:Int
 b:Int
 name:ByteArray
 v:VC
instance:Cells CC where
 sz:=9
 enc:=fun c=>[.int .i64 c.kind,.int .i64 c.time,.int .i64 c.a,.int .i64 c.b,.string c.name,.int .i64 c.v.kind,.int .i64 c.v.n,.string c.v.s,.slice c.v.la c.v.ln c.v.lc]
 len:=fun _=>rfl
 one:=by
  intro x v hv;simp at hv;rcases hv with rfl|rfl|rfl|rfl|rfl|rfl|rfl|rfl|rfl<;>rfl
structure CmF (F:Nat->Prop)(w:World)(c:CC)(x:Cm):Prop where
 kind:c.kind=x.kind
 time:c.time=x.time
 a:c.a=x.a
 b:c.b=x.b
 name:c.name=x.name
 v:CF F w c.v x.v
instance:Elt CC Cm where
 rel:=CmF
 keep:=fun h K hs=>⟨h.kind,h.time,h.a,h.b,h.name,h.v.keep K hs⟩
 mono:=fun h hs=>⟨h.kind,h.time,h.a,h.b,h.name,h.v.mono hs⟩
structure EC where
 id:Int
 time:Int
 kind:Int
 a:Int
 b:Int
 name:ByteArray
 text:ByteArray
 v:VC
instance:Cells EC where
 sz:=11
 enc:=fun c=>[.int .i64 c.id,.int .i64 c.time,.int .i64 c.kind,.int .i64 c.a,.int .i64 c.b,.string c.name,.string c.text,.int .i64 c.v.kind,.int .i64 c.v.n,.string c.v.s,.slice c.v.la c.v.ln c.v.lc]
 len:=fun _=>rfl
 one:=by
  intro x v hv;simp at hv;rcases hv with rfl|rfl|rfl|rfl|rfl|rfl|rfl|rfl|rfl|rfl|rfl<;>rfl
structure EvF (F:Nat->Prop)(w:World)(c:EC)(x:Ev):Prop where
 id:c.id=x.id
 time:c.time=x.time
 kind:c.kind=x.kind
 a:c.a=x.a
 b:c.b=x.b
 name:c.name=x.name
 text:c.text=x.text
 v:CF F w c.v x.v
instance:Elt EC Ev where
 rel:=EvF
 keep:=fun h K hs=>⟨h.id,h.time,h.kind,h.a,h.b,h.name,h.text,h.v.keep K hs⟩
 mono:=fun h hs=>⟨h.id,h.time,h.kind,h.a,h.b,h.name,h.text,h.v.mono hs⟩
def XRow {α β:Type}[Cells α][Elt α β](F:Nat->Prop)(w:World)(e:TypeId)(v:Value)(l:List β):Prop:=
 ∃cs:List α,RowAt w e v cs/\cs.length=l.length/\∀(i:Nat) (c:α) (x:β),cs[i]? =some c->l[i]? =some x->Elt.rel F w c x
def XRd {α β:Type}[Cells α][Elt α β](F:Nat->Prop)(w:World)(v:Value)(l:List β):Prop:=
 ∃cs:List α,RdF F w v cs/\cs.length=l.length/\∀(i:Nat) (c:α) (x:β),cs[i]? =some c->l[i]? =some x->Elt.rel F w c x
section
variable{α β:Type} [Cells α] [Elt α β] {F G S:Nat->Prop} {w w':World} {e:TypeId} {v:Value} {l:List β}
theorem XRow.slice (h:XRow F w e v l):∃a cap,v= .slice a l.length cap:=by
 obtain⟨D,B,A,C⟩:=h;obtain⟨a,cap,h⟩:=B.slice;exact⟨a,cap,by rw[<-A];exact h⟩
theorem XRow.nil (F:Nat->Prop)(w:World)(e:TypeId):XRow (β:=β) F w e (.slice none 0 0) []:=⟨[],RowAt.nil _ _,rfl,fun i c x h=>by simp at h⟩
theorem XRow.keep (h:XRow F w e v l)(K:Keeps S w w')(hs:∀g,F g->¬S g)(hv:∀g,v.ownBlock=some g->¬S g):XRow F w' e v l:=by
 obtain⟨D,C,B,A⟩:=h;exact⟨D,C.keep K hv,B,fun i c x hc hx=>Elt.keep (A i c x hc hx) K hs⟩
theorem XRow.mono (h:XRow F w e v l)(hs:∀g,F g->g<w.heap.size->G g):XRow G w e v l:=by
 obtain⟨D,C,B,A⟩:=h;exact⟨D,C,B,fun i c x hc hx=>Elt.mono (A i c x hc hx) hs⟩
theorem XRow.below (h:XRow F w e v l)(B:Below w w w'):XRow F w' e v l:=h.keep (S:=fun _=>False) (zkb B) (fun _ _ f=>f) (fun _ _ f=>f)
theorem XRow.lt (h:XRow F w e v l){g:Nat}(hg:v.ownBlock=some g):g<w:=by
 obtain⟨B,A,_⟩:=h;exact A.lt hg
theorem XRow.rd (h:XRow F w e v l)(hF:∀g,F g->g<w.heap.size->G g)(hG:∀g,v.ownBlock=some g->G g):XRd G w v l:=by
 obtain⟨D,C,B,A⟩:=h;exact⟨D,RdF.of_row C hG,B,fun i c x hc hx=>Elt.mono (A i c x hc hx) hF⟩
theorem XRow.at_ {a:Option Addr}{n cap:Nat}(h:XRow F w e (.slice a n cap) l){i:Nat}{x:β}(hx:l[i]? =some x):∃g off c,a=some ⟨g,off,none⟩/\g<w.heap.size/\Elt.rel F w c x/\(∀o,w.frozen? ⟨g,o,none⟩=false)/\∀j u,(enc c)[j]? =some u->w.cell? ⟨g,off+i*sz α+j,none⟩=some u:=by
 obtain⟨H,B,G,E⟩:=h;obtain⟨c,A⟩:=yae (l:=H) (k:=i) (by rw[G];exact(zge hx).1);obtain⟨g,off,rfl,D⟩:=B.addr A;refine⟨g,off,c,rfl,D,E i c x A hx,fun o=>B.frozen o,fun j u hu=> ?_⟩;have C:j<sz α:=by have:=(zge hu).1;rwa[Cells.len]at this
 have q:=B.cell A (j:=j) C;rw[show off+(i*sz α+j)=off+i*sz α+j by omega]at q;rw[q,<-hu]
theorem XRd.slice (h:XRd F w v l):∃a cap,v= .slice a l.length cap:=by
 obtain⟨D,B,A,C⟩:=h;obtain⟨a,cap,h⟩:=B.slice;exact⟨a,cap,by rw[<-A];exact h⟩
theorem XRd.keep (h:XRd F w v l)(K:Keeps S w w')(hs:∀g,F g->¬S g):XRd F w' v l:=by
 obtain⟨D,C,B,A⟩:=h;exact⟨D,C.keep K hs,B,fun i c x hc hx=>Elt.keep (A i c x hc hx) K hs⟩
theorem XRd.mono (h:XRd F w v l)(hs:∀g,F g->g<w.heap.size->G g):XRd G w v l:=by
 obtain⟨D,C,B,A⟩:=h;exact⟨D,C.mono hs,B,fun i c x hc hx=>Elt.mono (A i c x hc hx) hs⟩
theorem XRd.below (h:XRd F w v l)(B:Below w w w'):XRd F w' v l:=h.keep (S:=fun _=>False) (zkb B) (fun _ _ f=>f)
theorem XRd.at_ {a:Option Addr}{n cap:Nat}(h:XRd F w (.slice a n cap) l){i:Nat}{x:β}(hx:l[i]? =some x):∃g off c,a=some ⟨g,off,none⟩/\F g/\g<w.heap.size/\Elt.rel F w c x/\∀j u,(enc c)[j]? =some u->w.cell? ⟨g,off+i*sz α+j,none⟩=some u:=by
 obtain⟨I,H,G,E⟩:=h;obtain⟨c,A⟩:=yae (l:=I) (k:=i) (by rw[G];exact(zge hx).1);obtain⟨g,off,C,D,B,q⟩:=H.at_ A;exact⟨g,off,c,C,D,B,E i c x A hx,fun j u hu=>by rw[zmm];exact q j u hu⟩
end
structure MV where
 ss:Value
 ic:IC
 ps:Value
 inp:VC
 ts:Value
 as_:Value
 ls:Value
 ms:Value
def own (v:MV)(b:Nat):Nat->Option Nat
 |0=>some b
 |1=>v.ss.ownBlock
 |2=>v.ps.ownBlock
 |3=>v.ts.ownBlock
 |4=>v.as_.ownBlock
 |5=>v.ls.ownBlock
 |6=>v.ms.ownBlock
 |_=>none
def MO (v:MV)(b g:Nat):Prop:=∃i,own v b i=some g
def MZ (Z:Nat->Prop)(v:MV)(b g:Nat):Prop:=¬MO v b g/\Z g
def ybW (v:MV)(s:MS):List Value:=
 [v.ss,.slice v.ic.ca v.ic.cn v.ic.cc,.slice v.ic.ka v.ic.kn v.ic.kc,.slice v.ic.na v.ic.nn v.ic.nc,.int .i64 v.ic.pl,v.ps,.int .i64 (s.at_:Int),.int .i64 v.inp.kind,.int .i64 v.inp.n,.string v.inp.s,.slice v.inp.la v.inp.ln v.inp.lc,.int .i64 s.now,
  v.ts,.int .i64 s.timers.next,v.as_,.int .i64 s.acts.next,v.ls,.bool s.asked,.bool s.begun,.bool s.over,.string s.trap,v.ms,.int .i64 (s.taken:Int),.int .i64 (s.events:Int),.int .i64 (s.steps:Int)]
structure MT where
 m:TypeId
 v:TypeId
 t:TypeId
 l:TypeId
 c:TypeId
structure MX (T:MT)(Z:Nat->Prop)(W:World)(b:Nat)(v:MV)(p:Img)(s:MS):Prop where
 h:W.heap[b]? =some (.cells (ybW v s).toArray T.m (0,0))
 stk:XRow (MZ Z v b) W T.v v.ss s.stk
 pls:XRow (MZ Z v b) W T.v v.ps s.places
 tms:XRow (MZ Z v b) W T.t v.ts s.timers.list
 acs:XRow (MZ Z v b) W T.t v.as_ s.acts.list
 lts:XRow (MZ Z v b) W T.l v.ls s.letters
 mds:XRow (MZ Z v b) W T.c v.ms s.made
 img:IAt (MZ Z v b) W v.ic p
 inp:CF (MZ Z v b) W v.inp s.input
 sep:∀i j g,own v b i=some g->own v b j=some g->i=j
structure MK (b:Nat)(v:MV)(W:World)(v':MV)(W':World):Prop where
 keeps:Keeps (MO v b) W W'
 own:∀j,MO v' b j->MO v b j\/W.heap.size<=j
theorem MK.refl (b:Nat)(v:MV)(W:World):MK b v W v W:=⟨Keeps.refl _ _,fun _ h=>.inl h⟩
theorem MK.trans {b:Nat}{v v' v'':MV}{W W' W'':World}(h:MK b v W v' W')(k:MK b v' W' v'' W''):MK b v W v'' W'':=by
 refine⟨h.keeps.trans k.keeps (fun j hj e=>(h.own j e).resolve_right (by omega)),fun j hj=> ?_⟩;rcases k.own j hj with A|A
 .exact h.own j A
 .exact .inr (znf h.keeps.size A)
theorem MK.ext {b:Nat}{v:MV}{W W':World}(K:Below W W W'):MK b v W v W':=⟨(zkb (S:=fun _=>False) K).mono (fun _ _ f=>f.elim),fun _ h=>.inl h⟩
section
variable{T:MT} {Z:Nat->Prop} {W W':World} {b:Nat} {v:MV} {p:Img} {s:MS}
theorem MX.lt (M:MX T Z W b v p s){g:Nat}(h:MO v b g):g<W:=by
 obtain⟨i,A⟩:=h
 match i,A with
 |0,A=>cases A;exact zlt M.h
 |1,A=>exact M.stk.lt A
 |2,A=>exact M.pls.lt A
 |3,A=>exact M.tms.lt A
 |4,A=>exact M.acs.lt A
 |5,A=>exact M.lts.lt A
 |6,A=>exact M.mds.lt A
 |n+7,A=>cases A
theorem MX.far {S:Nat->Prop}(M:MX T Z W b v p s)(K:Keeps S W W')(h1:∀j,S j->¬MO v b j)(h2:∀j,S j->¬Z j):MX T Z W' b v p s:=
 have A:∀g,MZ Z v b g->¬S g:=fun g h s=>h2 g s h.2
 ⟨(K.block b (zlt M.h) (fun s=>h1 b s ⟨0,rfl⟩)).trans M.h,M.stk.keep K A (fun g hg s=>h1 g s ⟨1,hg⟩),M.pls.keep K A (fun g hg s=>h1 g s ⟨2,hg⟩),M.tms.keep K A (fun g hg s=>h1 g s ⟨3,hg⟩),M.acs.keep K A (fun g hg s=>h1 g s ⟨4,hg⟩),M.lts.keep K A (fun g hg s=>h1 g s ⟨5,hg⟩),M.mds.keep K A (fun g hg s=>h1 g s ⟨6,hg⟩),M.img.keep K A,M.inp.keep K A,M.sep⟩
theorem MX.ext (M:MX T Z W b v p s)(B:Below W W W'):MX T Z W' b v p s:=by
 have K:=zkb (S:=fun _=>False) B;exact M.far K (fun _ f=>f.elim) (fun _ f=>f.elim)
theorem MX.monoZ {Z':Nat->Prop}(M:MX T Z W b v p s)(h:∀j,Z j->j<W.heap.size->Z' j):MX T Z' W b v p s:=
 have A:∀g,MZ Z v b g->g<W.heap.size->MZ Z' v b g:=fun g hg hl=>⟨hg.1,h g hg.2 hl⟩
 ⟨M.h,M.stk.mono A,M.pls.mono A,M.tms.mono A,M.acs.mono A,M.lts.mono A,M.mds.mono A,M.img.mono A,M.inp.mono A,M.sep⟩
theorem MX.cell (M:MX T Z W b v p s){k:Nat}{u:Value}(h:(ybW v s)[k]? =some u):W.cell? ⟨b,k,none⟩=some u:=by
 rw[zch M.h,zmc];exact h
theorem MX.frozen (M:MX T Z W b v p s)(o:Nat):W.frozen? ⟨b,o,none⟩=false:=zfr M.h o
theorem MX.scalar (M:MX T Z W b v p s)(k:Nat)(u:Value)(s':MS)(henc:ybW v s'=(ybW v s).set k u)(e1:s'.stk=s.stk)(e2:s'.places=s.places)(e3:s'.timers.list=s.timers.list)(e4:s'.acts.list=s.acts.list)(e5:s'.letters=s.letters)(e6:s'.made=s.made)(e7:s'.input=s.input):
  MX T Z (W.setCell ⟨b,k,none⟩ u) b v p s'/\MK b v W v (W.setCell ⟨b,k,none⟩ u):=by
 have K:Keeps (fun j=>j=b) W (W.setCell ⟨b,k,none⟩ u):=Keeps.setCell (S:=fun j=>j=b) (p:=⟨b,k,none⟩) (Keeps.refl _ _) (.inl rfl) _;have A:∀g,MZ Z v b g->¬g=b:=fun g h e=>h.1 ⟨0,by rw[e];rfl⟩;have B:∀i g,own v b (i+1)=some g->¬g=b:=fun i g h e=>by
  have:=M.sep (i+1) 0 g h (by rw[e];rfl);omega
 refine⟨⟨?_,by rw[e1];exact M.stk.keep K A (fun g hg=>B 0 g hg),by rw[e2];exact M.pls.keep K A (fun g hg=>B 1 g hg),by rw[e3];exact M.tms.keep K A (fun g hg=>B 2 g hg),by rw[e4];exact M.acs.keep K A (fun g hg=>B 3 g hg),by rw[e5];exact M.lts.keep K A (fun g hg=>B 4 g hg),by rw[e6];exact M.mds.keep K A (fun g hg=>B 5 g hg),M.img.keep K A,by rw[e7];exact M.inp.keep K A,M.sep⟩,⟨K.mono (fun j _ e=>⟨0,by rw[e];rfl⟩),fun j h=>.inl h⟩⟩;rw[henc];have:=M.h;simp[World.setCell,zni,this]
theorem MO.turned {v':MV}{i0:Nat}(hsame:∀i,i≠i0->own v' b i=own v b i){g:Nat}(h:MO v' b g):MO v b g\/own v' b i0=some g:=by
 obtain⟨i,A⟩:=h;by_cases e:i=i0
 .exact .inr (e▸A)
 .exact .inl ⟨i,by rw[<-hsame i e];exact A⟩
theorem MZ.turned {v':MV}{i0:Nat}(hsame:∀i,i≠i0->own v' b i=own v b i)(hf:∀g,own v' b i0=some g->own v b i0=some g\/W.heap.size<=g){g:Nat}(h:MZ Z v b g)(hl:g<W.heap.size):MZ Z v' b g:=by
 refine⟨fun e=> ?_,h.2⟩;rcases MO.turned hsame e with e|e
 .exact h.1 e
 .rcases hf g e with e|e
  .exact h.1 ⟨i0,e⟩
  .omega
theorem XRow.turned {α β:Type}[Cells α][Elt α β]{v':MV}{i0 j0:Nat}{e:TypeId}{r:Value}{l:List β}(hrow:XRow (MZ Z v b) W e r l)(hr:r.ownBlock=own v b j0)(hj:j0≠i0)(h0:j0≠0)(sep:∀i j g,own v b i=some g->own v b j=some g->i=j)
  (hsame:∀i,i≠i0->own v' b i=own v b i)(hf:∀g,own v' b i0=some g->own v b i0=some g\/W.heap.size<=g)(K:Keeps (fun j=>j=b\/own v b i0=some j) W W'):XRow (MZ Z v' b) W' e r l:=
 ((hrow.mono (G:=fun g=>MZ Z v b g/\MZ Z v' b g) (fun g h hl=>⟨h,MZ.turned hsame hf h hl⟩)).keep K (fun g h e=>e.elim (fun e=>h.1.1 ⟨0,by rw[e];rfl⟩) (fun e=>h.1.1 ⟨i0,e⟩)) (fun g hg e=>e.elim (fun e=>h0 (sep j0 0 g (hr▸hg) (by rw[e];rfl))) (fun e=>hj (sep j0 i0 g (hr▸hg) e)))).mono (fun g h _=>h.2)
theorem ybN {v':MV}{i0:Nat}(hlt:∀g,MO v b g->g<W.heap.size)(sep:∀i j g,own v b i=some g->own v b j=some g->i=j)(hsame:∀i,i≠i0->own v' b i=own v b i)(hf:∀g,own v' b i0=some g->own v b i0=some g\/W.heap.size<=g):∀i j g,own v' b i=some g->own v' b j=some g->i=j:=by
 have one:∀i g,i≠i0->own v' b i=some g->own v' b i0=some g->False:=fun i g A h1 h2=>by
  rw[hsame i A]at h1;rcases hf g h2 with h|h
  .exact A (sep i i0 g h1 h)
  .have:=hlt g ⟨i,h1⟩;omega
 intro i j g A B;by_cases ei:i=i0
 .by_cases ej:j=i0
  .rw[ei,ej]
  .rw[ei]at A;exact(one j g ej B A).elim
 .by_cases ej:j=i0
  .rw[ej]at B;exact(one i g ei A B).elim
  .rw[hsame i ei]at A;rw[hsame j ej]at B;exact sep i j g A B
theorem MX.setStk (M:MX T Z W b v p s){w1:World}{v1:Value}{l1:List Val}(s':MS)(hr:XRow (fun g=>MZ Z v b g/\¬v1.ownBlock=some g) w1 T.v v1 l1)(K:Keeps (fun j=>v.ss.ownBlock=some j) W w1)(hf:∀g,v1.ownBlock=some g->v.ss.ownBlock=some g\/W.heap.size<=g)(hs':s'={s with stk:=l1}):
  MX T Z (w1.setCell ⟨b,0,none⟩ v1) b {v with ss:=v1} p s'/\MK b v W {v with ss:=v1} (w1.setCell ⟨b,0,none⟩ v1):=by
 subst hs';have E:v.ss.ownBlock≠some b:=fun e=>absurd (M.sep 1 0 b e rfl) (by decide);have J:w1.heap[b]? =some (.cells (ybW v s).toArray T.m (0,0)):=(K.block b (zlt M.h) E).trans M.h;have H:Keeps (fun j=>j=b) w1 (w1.setCell ⟨b,0,none⟩ v1):=Keeps.setCell (S:=fun j=>j=b) (p:=⟨b,0,none⟩) (Keeps.refl _ _) (.inl rfl) _;have D:Keeps (fun j=>j=b\/own v b 1=some j) W (w1.setCell ⟨b,0,none⟩ v1):=(K.mono (fun _ _ e=>.inr e)).trans H (fun _ _ e=>.inl e);have A:∀i,i≠1->own {v with ss:=v1} b i=own v b i:=fun i hi=>by
  match i with
  |0=>first|rfl|exact absurd rfl hi
  |1=>first|rfl|exact absurd rfl hi
  |2=>first|rfl|exact absurd rfl hi
  |3=>first|rfl|exact absurd rfl hi
  |4=>first|rfl|exact absurd rfl hi
  |5=>first|rfl|exact absurd rfl hi
  |6=>first|rfl|exact absurd rfl hi
  |_+7=>rfl
 have C:∀g,own {v with ss:=v1} b 1=some g->own v b 1=some g\/W.heap.size<=g:=hf;have I:∀g,v1.ownBlock=some g->g≠b:=fun g hg e=>by
  rcases hf g hg with h|h
  .exact E (e▸h)
  .have:=zlt M.h;omega
 have F:∀g,MO v b g->g<W.heap.size:=fun g=>M.lt;have B:XRow (MZ Z {v with ss:=v1} b) (w1.setCell ⟨b,0,none⟩ v1) T.v v1 l1:=by
  refine(hr.keep H (fun g h e=>h.1.1 ⟨0,by rw[e];rfl⟩) (fun g hg=>I g hg)).mono (fun g h _=>⟨fun e=> ?_,h.1.2⟩);exact(MO.turned A e).elim h.1.1 h.2
 refine⟨⟨by simp[World.setCell,zni,J];rfl,?_,?_,?_,?_,?_,?_,?_,?_,ybN F M.sep A C⟩,D.mono (fun j _ e=>e.elim (fun e=>⟨0,by rw[e];rfl⟩) (fun e=>⟨1,e⟩)),fun j h=>(MO.turned A h).elim .inl (fun e=>(hf j e).elim (fun e=>.inl ⟨1,e⟩) .inr)⟩
 .first|exact B|exact M.stk.turned (j0:=1) rfl (by decide) (by decide) M.sep A C D
 .first|exact B|exact M.pls.turned (j0:=2) rfl (by decide) (by decide) M.sep A C D
 .first|exact B|exact M.tms.turned (j0:=3) rfl (by decide) (by decide) M.sep A C D
 .first|exact B|exact M.acs.turned (j0:=4) rfl (by decide) (by decide) M.sep A C D
 .first|exact B|exact M.lts.turned (j0:=5) rfl (by decide) (by decide) M.sep A C D
 .first|exact B|exact M.mds.turned (j0:=6) rfl (by decide) (by decide) M.sep A C D
 .exact((M.img.mono (G:=fun g=>MZ Z v b g/\MZ Z {v with ss:=v1} b g) (fun g h hl=>⟨h,MZ.turned A C h hl⟩)).keep D (fun g h e=>e.elim (fun e=>h.1.1 ⟨0,by rw[e];rfl⟩) (fun e=>h.1.1 ⟨1,e⟩))).mono (fun g h _=>h.2)
 .exact((M.inp.mono (G:=fun g=>MZ Z v b g/\MZ Z {v with ss:=v1} b g) (fun g h hl=>⟨h,MZ.turned A C h hl⟩)).keep D (fun g h e=>e.elim (fun e=>h.1.1 ⟨0,by rw[e];rfl⟩) (fun e=>h.1.1 ⟨1,e⟩))).mono (fun g h _=>h.2)
theorem MX.setPls (M:MX T Z W b v p s){w1:World}{v1:Value}{l1:List Val}(s':MS)(hr:XRow (fun g=>MZ Z v b g/\¬v1.ownBlock=some g) w1 T.v v1 l1)(K:Keeps (fun j=>v.ps.ownBlock=some j) W w1)(hf:∀g,v1.ownBlock=some g->v.ps.ownBlock=some g\/W.heap.size<=g)(hs':s'={s with places:=l1}):
  MX T Z (w1.setCell ⟨b,5,none⟩ v1) b {v with ps:=v1} p s'/\MK b v W {v with ps:=v1} (w1.setCell ⟨b,5,none⟩ v1):=by
 subst hs';have E:v.ps.ownBlock≠some b:=fun e=>absurd (M.sep 2 0 b e rfl) (by decide);have J:w1.heap[b]? =some (.cells (ybW v s).toArray T.m (0,0)):=(K.block b (zlt M.h) E).trans M.h;have H:Keeps (fun j=>j=b) w1 (w1.setCell ⟨b,5,none⟩ v1):=Keeps.setCell (S:=fun j=>j=b) (p:=⟨b,5,none⟩) (Keeps.refl _ _) (.inl rfl) _;have D:Keeps (fun j=>j=b\/own v b 2=some j) W (w1.setCell ⟨b,5,none⟩ v1):=(K.mono (fun _ _ e=>.inr e)).trans H (fun _ _ e=>.inl e);have A:∀i,i≠2->own {v with ps:=v1} b i=own v b i:=fun i hi=>by
  match i with
  |0=>first|rfl|exact absurd rfl hi
  |1=>first|rfl|exact absurd rfl hi
  |2=>first|rfl|exact absurd rfl hi
  |3=>first|rfl|exact absurd rfl hi
  |4=>first|rfl|exact absurd rfl hi
  |5=>first|rfl|exact absurd rfl hi
  |6=>first|rfl|exact absurd rfl hi
  |_+7=>rfl
 have C:∀g,own {v with ps:=v1} b 2=some g->own v b 2=some g\/W.heap.size<=g:=hf;have I:∀g,v1.ownBlock=some g->g≠b:=fun g hg e=>by
  rcases hf g hg with h|h
  .exact E (e▸h)
  .have:=zlt M.h;omega
 have F:∀g,MO v b g->g<W.heap.size:=fun g=>M.lt;have B:XRow (MZ Z {v with ps:=v1} b) (w1.setCell ⟨b,5,none⟩ v1) T.v v1 l1:=by
  refine(hr.keep H (fun g h e=>h.1.1 ⟨0,by rw[e];rfl⟩) (fun g hg=>I g hg)).mono (fun g h _=>⟨fun e=> ?_,h.1.2⟩);exact(MO.turned A e).elim h.1.1 h.2
 refine⟨⟨by simp[World.setCell,zni,J];rfl,?_,?_,?_,?_,?_,?_,?_,?_,ybN F M.sep A C⟩,D.mono (fun j _ e=>e.elim (fun e=>⟨0,by rw[e];rfl⟩) (fun e=>⟨2,e⟩)),fun j h=>(MO.turned A h).elim .inl (fun e=>(hf j e).elim (fun e=>.inl ⟨2,e⟩) .inr)⟩
 .first|exact B|exact M.stk.turned (j0:=1) rfl (by decide) (by decide) M.sep A C D
 .first|exact B|exact M.pls.turned (j0:=2) rfl (by decide) (by decide) M.sep A C D
 .first|exact B|exact M.tms.turned (j0:=3) rfl (by decide) (by decide) M.sep A C D
 .first|exact B|exact M.acs.turned (j0:=4) rfl (by decide) (by decide) M.sep A C D
 .first|exact B|exact M.lts.turned (j0:=5) rfl (by decide) (by decide) M.sep A C D
 .first|exact B|exact M.mds.turned (j0:=6) rfl (by decide) (by decide) M.sep A C D
 .exact((M.img.mono (G:=fun g=>MZ Z v b g/\MZ Z {v with ps:=v1} b g) (fun g h hl=>⟨h,MZ.turned A C h hl⟩)).keep D (fun g h e=>e.elim (fun e=>h.1.1 ⟨0,by rw[e];rfl⟩) (fun e=>h.1.1 ⟨2,e⟩))).mono (fun g h _=>h.2)
 .exact((M.inp.mono (G:=fun g=>MZ Z v b g/\MZ Z {v with ps:=v1} b g) (fun g h hl=>⟨h,MZ.turned A C h hl⟩)).keep D (fun g h e=>e.elim (fun e=>h.1.1 ⟨0,by rw[e];rfl⟩) (fun e=>h.1.1 ⟨2,e⟩))).mono (fun g h _=>h.2)
theorem MX.setTms (M:MX T Z W b v p s){w1:World}{v1:Value}{l1:List Th}(s':MS)(hr:XRow (fun g=>MZ Z v b g/\¬v1.ownBlock=some g) w1 T.t v1 l1)(K:Keeps (fun j=>v.ts.ownBlock=some j) W w1)(hf:∀g,v1.ownBlock=some g->v.ts.ownBlock=some g\/W.heap.size<=g)(hs':s'={s with timers:=⟨l1,s.timers.next⟩}):
  MX T Z (w1.setCell ⟨b,12,none⟩ v1) b {v with ts:=v1} p s'/\MK b v W {v with ts:=v1} (w1.setCell ⟨b,12,none⟩ v1):=by
 subst hs';have E:v.ts.ownBlock≠some b:=fun e=>absurd (M.sep 3 0 b e rfl) (by decide);have J:w1.heap[b]? =some (.cells (ybW v s).toArray T.m (0,0)):=(K.block b (zlt M.h) E).trans M.h;have H:Keeps (fun j=>j=b) w1 (w1.setCell ⟨b,12,none⟩ v1):=Keeps.setCell (S:=fun j=>j=b) (p:=⟨b,12,none⟩) (Keeps.refl _ _) (.inl rfl) _;have D:Keeps (fun j=>j=b\/own v b 3=some j) W (w1.setCell ⟨b,12,none⟩ v1):=(K.mono (fun _ _ e=>.inr e)).trans H (fun _ _ e=>.inl e);have A:∀i,i≠3->own {v with ts:=v1} b i=own v b i:=fun i hi=>by
  match i with
  |0=>first|rfl|exact absurd rfl hi
  |1=>first|rfl|exact absurd rfl hi
  |2=>first|rfl|exact absurd rfl hi
  |3=>first|rfl|exact absurd rfl hi
  |4=>first|rfl|exact absurd rfl hi
  |5=>first|rfl|exact absurd rfl hi
  |6=>first|rfl|exact absurd rfl hi
  |_+7=>rfl
 have C:∀g,own {v with ts:=v1} b 3=some g->own v b 3=some g\/W.heap.size<=g:=hf;have I:∀g,v1.ownBlock=some g->g≠b:=fun g hg e=>by
  rcases hf g hg with h|h
  .exact E (e▸h)
  .have:=zlt M.h;omega
 have F:∀g,MO v b g->g<W.heap.size:=fun g=>M.lt;have B:XRow (MZ Z {v with ts:=v1} b) (w1.setCell ⟨b,12,none⟩ v1) T.t v1 l1:=by
  refine(hr.keep H (fun g h e=>h.1.1 ⟨0,by rw[e];rfl⟩) (fun g hg=>I g hg)).mono (fun g h _=>⟨fun e=> ?_,h.1.2⟩);exact(MO.turned A e).elim h.1.1 h.2
 refine⟨⟨by simp[World.setCell,zni,J];rfl,?_,?_,?_,?_,?_,?_,?_,?_,ybN F M.sep A C⟩,D.mono (fun j _ e=>e.elim (fun e=>⟨0,by rw[e];rfl⟩) (fun e=>⟨3,e⟩)),fun j h=>(MO.turned A h).elim .inl (fun e=>(hf j e).elim (fun e=>.inl ⟨3,e⟩) .inr)⟩
 .first|exact B|exact M.stk.turned (j0:=1) rfl (by decide) (by decide) M.sep A C D
 .first|exact B|exact M.pls.turned (j0:=2) rfl (by decide) (by decide) M.sep A C D
 .first|exact B|exact M.tms.turned (j0:=3) rfl (by decide) (by decide) M.sep A C D
 .first|exact B|exact M.acs.turned (j0:=4) rfl (by decide) (by decide) M.sep A C D
 .first|exact B|exact M.lts.turned (j0:=5) rfl (by decide) (by decide) M.sep A C D
 .first|exact B|exact M.mds.turned (j0:=6) rfl (by decide) (by decide) M.sep A C D
 .exact((M.img.mono (G:=fun g=>MZ Z v b g/\MZ Z {v with ts:=v1} b g) (fun g h hl=>⟨h,MZ.turned A C h hl⟩)).keep D (fun g h e=>e.elim (fun e=>h.1.1 ⟨0,by rw[e];rfl⟩) (fun e=>h.1.1 ⟨3,e⟩))).mono (fun g h _=>h.2)
 .exact((M.inp.mono (G:=fun g=>MZ Z v b g/\MZ Z {v with ts:=v1} b g) (fun g h hl=>⟨h,MZ.turned A C h hl⟩)).keep D (fun g h e=>e.elim (fun e=>h.1.1 ⟨0,by rw[e];rfl⟩) (fun e=>h.1.1 ⟨3,e⟩))).mono (fun g h _=>h.2)
theorem MX.setAcs (M:MX T Z W b v p s){w1:World}{v1:Value}{l1:List Th}(s':MS)(hr:XRow (fun g=>MZ Z v b g/\¬v1.ownBlock=some g) w1 T.t v1 l1)(K:Keeps (fun j=>v.as_.ownBlock=some j) W w1)(hf:∀g,v1.ownBlock=some g->v.as_.ownBlock=some g\/W.heap.size<=g)(hs':s'={s with acts:=⟨l1,s.acts.next⟩}):
  MX T Z (w1.setCell ⟨b,14,none⟩ v1) b {v with as_:=v1} p s'/\MK b v W {v with as_:=v1} (w1.setCell ⟨b,14,none⟩ v1):=by
 subst hs';have E:v.as_.ownBlock≠some b:=fun e=>absurd (M.sep 4 0 b e rfl) (by decide);have J:w1.heap[b]? =some (.cells (ybW v s).toArray T.m (0,0)):=(K.block b (zlt M.h) E).trans M.h;have H:Keeps (fun j=>j=b) w1 (w1.setCell ⟨b,14,none⟩ v1):=Keeps.setCell (S:=fun j=>j=b) (p:=⟨b,14,none⟩) (Keeps.refl _ _) (.inl rfl) _;have D:Keeps (fun j=>j=b\/own v b 4=some j) W (w1.setCell ⟨b,14,none⟩ v1):=(K.mono (fun _ _ e=>.inr e)).trans H (fun _ _ e=>.inl e);have A:∀i,i≠4->own {v with as_:=v1} b i=own v b i:=fun i hi=>by
  match i with
  |0=>first|rfl|exact absurd rfl hi
  |1=>first|rfl|exact absurd rfl hi
  |2=>first|rfl|exact absurd rfl hi
  |3=>first|rfl|exact absurd rfl hi
  |4=>first|rfl|exact absurd rfl hi
  |5=>first|rfl|exact absurd rfl hi
  |6=>first|rfl|exact absurd rfl hi
  |_+7=>rfl
 have C:∀g,own {v with as_:=v1} b 4=some g->own v b 4=some g\/W.heap.size<=g:=hf;have I:∀g,v1.ownBlock=some g->g≠b:=fun g hg e=>by
  rcases hf g hg with h|h
  .exact E (e▸h)
  .have:=zlt M.h;omega
 have F:∀g,MO v b g->g<W.heap.size:=fun g=>M.lt;have B:XRow (MZ Z {v with as_:=v1} b) (w1.setCell ⟨b,14,none⟩ v1) T.t v1 l1:=by
  refine(hr.keep H (fun g h e=>h.1.1 ⟨0,by rw[e];rfl⟩) (fun g hg=>I g hg)).mono (fun g h _=>⟨fun e=> ?_,h.1.2⟩);exact(MO.turned A e).elim h.1.1 h.2
 refine⟨⟨by simp[World.setCell,zni,J];rfl,?_,?_,?_,?_,?_,?_,?_,?_,ybN F M.sep A C⟩,D.mono (fun j _ e=>e.elim (fun e=>⟨0,by rw[e];rfl⟩) (fun e=>⟨4,e⟩)),fun j h=>(MO.turned A h).elim .inl (fun e=>(hf j e).elim (fun e=>.inl ⟨4,e⟩) .inr)⟩
 .first|exact B|exact M.stk.turned (j0:=1) rfl (by decide) (by decide) M.sep A C D
 .first|exact B|exact M.pls.turned (j0:=2) rfl (by decide) (by decide) M.sep A C D
 .first|exact B|exact M.tms.turned (j0:=3) rfl (by decide) (by decide) M.sep A C D
 .first|exact B|exact M.acs.turned (j0:=4) rfl (by decide) (by decide) M.sep A C D
 .first|exact B|exact M.lts.turned (j0:=5) rfl (by decide) (by decide) M.sep A C D
 .first|exact B|exact M.mds.turned (j0:=6) rfl (by decide) (by decide) M.sep A C D
 .exact((M.img.mono (G:=fun g=>MZ Z v b g/\MZ Z {v with as_:=v1} b g) (fun g h hl=>⟨h,MZ.turned A C h hl⟩)).keep D (fun g h e=>e.elim (fun e=>h.1.1 ⟨0,by rw[e];rfl⟩) (fun e=>h.1.1 ⟨4,e⟩))).mono (fun g h _=>h.2)
 .exact((M.inp.mono (G:=fun g=>MZ Z v b g/\MZ Z {v with as_:=v1} b g) (fun g h hl=>⟨h,MZ.turned A C h hl⟩)).keep D (fun g h e=>e.elim (fun e=>h.1.1 ⟨0,by rw[e];rfl⟩) (fun e=>h.1.1 ⟨4,e⟩))).mono (fun g h _=>h.2)
theorem MX.setLts (M:MX T Z W b v p s){w1:World}{v1:Value}{l1:List Lt}(s':MS)(hr:XRow (fun g=>MZ Z v b g/\¬v1.ownBlock=some g) w1 T.l v1 l1)(K:Keeps (fun j=>v.ls.ownBlock=some j) W w1)(hf:∀g,v1.ownBlock=some g->v.ls.ownBlock=some g\/W.heap.size<=g)(hs':s'={s with letters:=l1}):
  MX T Z (w1.setCell ⟨b,16,none⟩ v1) b {v with ls:=v1} p s'/\MK b v W {v with ls:=v1} (w1.setCell ⟨b,16,none⟩ v1):=by
 subst hs';have E:v.ls.ownBlock≠some b:=fun e=>absurd (M.sep 5 0 b e rfl) (by decide);have J:w1.heap[b]? =some (.cells (ybW v s).toArray T.m (0,0)):=(K.block b (zlt M.h) E).trans M.h;have H:Keeps (fun j=>j=b) w1 (w1.setCell ⟨b,16,none⟩ v1):=Keeps.setCell (S:=fun j=>j=b) (p:=⟨b,16,none⟩) (Keeps.refl _ _) (.inl rfl) _;have D:Keeps (fun j=>j=b\/own v b 5=some j) W (w1.setCell ⟨b,16,none⟩ v1):=(K.mono (fun _ _ e=>.inr e)).trans H (fun _ _ e=>.inl e);have A:∀i,i≠5->own {v with ls:=v1} b i=own v b i:=fun i hi=>by
  match i with
  |0=>first|rfl|exact absurd rfl hi
  |1=>first|rfl|exact absurd rfl hi
  |2=>first|rfl|exact absurd rfl hi
  |3=>first|rfl|exact absurd rfl hi
  |4=>first|rfl|exact absurd rfl hi
  |5=>first|rfl|exact absurd rfl hi
  |6=>first|rfl|exact absurd rfl hi
  |_+7=>rfl
 have C:∀g,own {v with ls:=v1} b 5=some g->own v b 5=some g\/W.heap.size<=g:=hf;have I:∀g,v1.ownBlock=some g->g≠b:=fun g hg e=>by
  rcases hf g hg with h|h
  .exact E (e▸h)
  .have:=zlt M.h;omega
 have F:∀g,MO v b g->g<W.heap.size:=fun g=>M.lt;have B:XRow (MZ Z {v with ls:=v1} b) (w1.setCell ⟨b,16,none⟩ v1) T.l v1 l1:=by
  refine(hr.keep H (fun g h e=>h.1.1 ⟨0,by rw[e];rfl⟩) (fun g hg=>I g hg)).mono (fun g h _=>⟨fun e=> ?_,h.1.2⟩);exact(MO.turned A e).elim h.1.1 h.2
 refine⟨⟨by simp[World.setCell,zni,J];rfl,?_,?_,?_,?_,?_,?_,?_,?_,ybN F M.sep A C⟩,D.mono (fun j _ e=>e.elim (fun e=>⟨0,by rw[e];rfl⟩) (fun e=>⟨5,e⟩)),fun j h=>(MO.turned A h).elim .inl (fun e=>(hf j e).elim (fun e=>.inl ⟨5,e⟩) .inr)⟩
 .first|exact B|exact M.stk.turned (j0:=1) rfl (by decide) (by decide) M.sep A C D
 .first|exact B|exact M.pls.turned (j0:=2) rfl (by decide) (by decide) M.sep A C D
 .first|exact B|exact M.tms.turned (j0:=3) rfl (by decide) (by decide) M.sep A C D
 .first|exact B|exact M.acs.turned (j0:=4) rfl (by decide) (by decide) M.sep A C D
 .first|exact B|exact M.lts.turned (j0:=5) rfl (by decide) (by decide) M.sep A C D
 .first|exact B|exact M.mds.turned (j0:=6) rfl (by decide) (by decide) M.sep A C D
 .exact((M.img.mono (G:=fun g=>MZ Z v b g/\MZ Z {v with ls:=v1} b g) (fun g h hl=>⟨h,MZ.turned A C h hl⟩)).keep D (fun g h e=>e.elim (fun e=>h.1.1 ⟨0,by rw[e];rfl⟩) (fun e=>h.1.1 ⟨5,e⟩))).mono (fun g h _=>h.2)
 .exact((M.inp.mono (G:=fun g=>MZ Z v b g/\MZ Z {v with ls:=v1} b g) (fun g h hl=>⟨h,MZ.turned A C h hl⟩)).keep D (fun g h e=>e.elim (fun e=>h.1.1 ⟨0,by rw[e];rfl⟩) (fun e=>h.1.1 ⟨5,e⟩))).mono (fun g h _=>h.2)
theorem MX.setMds (M:MX T Z W b v p s){w1:World}{v1:Value}{l1:List Cm}(s':MS)(hr:XRow (fun g=>MZ Z v b g/\¬v1.ownBlock=some g) w1 T.c v1 l1)(K:Keeps (fun j=>v.ms.ownBlock=some j) W w1)(hf:∀g,v1.ownBlock=some g->v.ms.ownBlock=some g\/W.heap.size<=g)(hs':s'={s with made:=l1}):
  MX T Z (w1.setCell ⟨b,21,none⟩ v1) b {v with ms:=v1} p s'/\MK b v W {v with ms:=v1} (w1.setCell ⟨b,21,none⟩ v1):=by
 subst hs';have E:v.ms.ownBlock≠some b:=fun e=>absurd (M.sep 6 0 b e rfl) (by decide);have J:w1.heap[b]? =some (.cells (ybW v s).toArray T.m (0,0)):=(K.block b (zlt M.h) E).trans M.h;have H:Keeps (fun j=>j=b) w1 (w1.setCell ⟨b,21,none⟩ v1):=Keeps.setCell (S:=fun j=>j=b) (p:=⟨b,21,none⟩) (Keeps.refl _ _) (.inl rfl) _;have D:Keeps (fun j=>j=b\/own v b 6=some j) W (w1.setCell ⟨b,21,none⟩ v1):=(K.mono (fun _ _ e=>.inr e)).trans H (fun _ _ e=>.inl e);have A:∀i,i≠6->own {v with ms:=v1} b i=own v b i:=fun i hi=>by
  match i with
  |0=>first|rfl|exact absurd rfl hi
  |1=>first|rfl|exact absurd rfl hi
  |2=>first|rfl|exact absurd rfl hi
  |3=>first|rfl|exact absurd rfl hi
  |4=>first|rfl|exact absurd rfl hi
  |5=>first|rfl|exact absurd rfl hi
  |6=>first|rfl|exact absurd rfl hi
  |_+7=>rfl
 have C:∀g,own {v with ms:=v1} b 6=some g->own v b 6=some g\/W.heap.size<=g:=hf;have I:∀g,v1.ownBlock=some g->g≠b:=fun g hg e=>by
  rcases hf g hg with h|h
  .exact E (e▸h)
  .have:=zlt M.h;omega
 have F:∀g,MO v b g->g<W.heap.size:=fun g=>M.lt;have B:XRow (MZ Z {v with ms:=v1} b) (w1.setCell ⟨b,21,none⟩ v1) T.c v1 l1:=by
  refine(hr.keep H (fun g h e=>h.1.1 ⟨0,by rw[e];rfl⟩) (fun g hg=>I g hg)).mono (fun g h _=>⟨fun e=> ?_,h.1.2⟩);exact(MO.turned A e).elim h.1.1 h.2
 refine⟨⟨by simp[World.setCell,zni,J];rfl,?_,?_,?_,?_,?_,?_,?_,?_,ybN F M.sep A C⟩,D.mono (fun j _ e=>e.elim (fun e=>⟨0,by rw[e];rfl⟩) (fun e=>⟨6,e⟩)),fun j h=>(MO.turned A h).elim .inl (fun e=>(hf j e).elim (fun e=>.inl ⟨6,e⟩) .inr)⟩
 .first|exact B|exact M.stk.turned (j0:=1) rfl (by decide) (by decide) M.sep A C D
 .first|exact B|exact M.pls.turned (j0:=2) rfl (by decide) (by decide) M.sep A C D
 .first|exact B|exact M.tms.turned (j0:=3) rfl (by decide) (by decide) M.sep A C D
 .first|exact B|exact M.acs.turned (j0:=4) rfl (by decide) (by decide) M.sep A C D
 .first|exact B|exact M.lts.turned (j0:=5) rfl (by decide) (by decide) M.sep A C D
 .first|exact B|exact M.mds.turned (j0:=6) rfl (by decide) (by decide) M.sep A C D
 .exact((M.img.mono (G:=fun g=>MZ Z v b g/\MZ Z {v with ms:=v1} b g) (fun g h hl=>⟨h,MZ.turned A C h hl⟩)).keep D (fun g h e=>e.elim (fun e=>h.1.1 ⟨0,by rw[e];rfl⟩) (fun e=>h.1.1 ⟨6,e⟩))).mono (fun g h _=>h.2)
 .exact((M.inp.mono (G:=fun g=>MZ Z v b g/\MZ Z {v with ms:=v1} b g) (fun g h hl=>⟨h,MZ.turned A C h hl⟩)).keep D (fun g h e=>e.elim (fun e=>h.1.1 ⟨0,by rw[e];rfl⟩) (fun e=>h.1.1 ⟨6,e⟩))).mono (fun g h _=>h.2)
end
theorem yfy {P:Program}{t e:TypeId}{i:TypeInfo}(ht:P.underlying t=some (.slice e))(hi:P.info? e=some i){ad:Option Addr}{k n cap:Nat}(hn:n<=cap)(W:World):
  (Instr.slice t (.slice ad k cap) none (some (.int .i64 n)) (some (.int .i64 n))).run P W= .ok (.slice ad n n) W:=by
 have A:ad.map (fun a=>a.add 0)=ad:=by cases ad<;>simp[Addr.add]
 simp[Instr.slice,run_underlying ht,Instr.sliceBounds,Instr.sliceBound,asIntOf,hn,sizeOf,typeInfo,hi,Result.andThen,A]
theorem RowAt.pre3 {α:Type}[Cells α]{w:World}{e:TypeId}{xs:List α}{ad:Option Addr}{k cap:Nat}(h:RowAt w e (.slice ad k cap) xs){n:Nat}(hn:n<=xs.length):
  n<=cap/\RowAt w e (.slice ad n n) (xs.take n):=by
 rcases h with⟨h,rfl⟩|⟨G,A,C,B,hv,E,J,I,H,F⟩
 .cases h
  simp at hn;subst hn;exact⟨znc _,.inl ⟨rfl,rfl⟩⟩
 .cases hv
  have D:(xs.take n).length=n:=by simp;omega
  refine⟨by omega,.inr ⟨G,A,n,B,by rw[D],E,by omega,by omega,?_,fun j u hu=>F j u ?_⟩⟩
  .have:n*sz α<=cap*sz α:=Nat.mul_le_mul_right _ (by omega)
   omega
  .rw[<-List.take_append_drop n xs,List.flatMap_append]
   exact(List.getElem?_append_left (zge hu).1).trans hu
theorem ykY {α:Type}[Cells α]{P:Program}{t e:TypeId}{bytes:Nat}(E:ElemOf α P t e bytes){w:World}{ad:Option Addr}{n cap:Nat}{xs:List α}(h:RowAt w e (.slice ad n cap) xs){k:Nat}(hk:k<=xs.length):
  (∀W:World,(Instr.slice t (.slice ad n cap) none (some (.int .i64 k)) (some (.int .i64 k))).run P W= .ok (.slice ad k k) W)/\RowAt w e (.slice ad k k) (xs.take k):=by
 obtain⟨i,z,hi,D,C,B,A⟩:=E.hi;obtain⟨a,b⟩:=RowAt.pre3 h hk;exact⟨fun W=>yfy E.ht hi a W,b⟩
def Ptw {α β:Type}[Cells α][Elt α β](F:Nat->Prop)(w:World)(cs:List α)(l:List β):Prop:=
 cs.length=l.length/\∀(i:Nat) (c:α) (x:β),cs[i]? =some c->l[i]? =some x->Elt.rel F w c x
section
variable{α β:Type} [Cells α] [Elt α β] {F G S:Nat->Prop} {w w':World} {e:TypeId} {v:Value} {l m:List β} {cs ds:List α}
theorem XRow.cells (h:XRow F w e v l):∃cs:List α,RowAt w e v cs/\Ptw F w cs l:=by
 obtain⟨cs,C,B,A⟩:=h;exact⟨cs,C,B,A⟩
theorem XRow.of (h:RowAt w e v cs)(p:Ptw F w cs l):XRow F w e v l:=⟨cs,h,p.1,p.2⟩
theorem Ptw.nil:Ptw (α:=α) F w [] ([]:List β):=⟨rfl,fun i c x h=>by simp at h⟩
theorem Ptw.one {c:α}{x:β}(h:Elt.rel F w c x):Ptw F w [c] [x]:=⟨rfl,fun i c' x' hc hx=>by
 match i with
 |0=>simp at hc hx;subst hc hx;exact h
 |i+1=>simp at hc⟩
theorem Ptw.app (h:Ptw F w cs l)(k:Ptw F w ds m):Ptw F w (cs++ds) (l++m):=by
 refine⟨by rw[znk,znk,h.1,k.1],fun i c x hc hx=> ?_⟩;by_cases hi:i<cs.length
 .rw[List.getElem?_append_left hi]at hc
  rw[List.getElem?_append_left (by rw[<-h.1];exact hi)]at hx;exact h.2 i c x hc hx
 .rw[List.getElem?_append_right (by omega)]at hc
  rw[List.getElem?_append_right (by rw[<-h.1];omega),<-h.1]at hx;exact k.2 _ c x hc hx
theorem Ptw.take (h:Ptw F w cs l)(n:Nat):Ptw F w (cs.take n) (l.take n):=by
 refine⟨by simp[h.1],fun i c x hc hx=> ?_⟩;rw[List.getElem?_take]at hc hx;by_cases hi:i<n
 .rw[if_pos hi]at hc hx
  exact h.2 i c x hc hx
 .rw[if_neg hi]at hc
  cases hc
theorem Ptw.drop (h:Ptw F w cs l)(n:Nat):Ptw F w (cs.drop n) (l.drop n):=by
 refine⟨by simp[h.1],fun i c x hc hx=> ?_⟩;rw[List.getElem?_drop]at hc hx;exact h.2 _ c x hc hx
theorem Ptw.erase (h:Ptw F w cs l)(i:Nat):Ptw F w (cs.take i++cs.drop (i+1)) (l.eraseIdx i):=by
 rw[List.eraseIdx_eq_take_drop_succ];exact(h.take i).app (h.drop (i+1))
theorem Ptw.pop (h:Ptw F w cs l):Ptw F w (cs.take (cs.length - 1)) l.dropLast:=by
 rw[List.dropLast_eq_take,<-h.1];exact h.take _
theorem Ptw.set (h:Ptw F w cs l)(i:Nat){c:α}{x:β}(hr:Elt.rel F w c x):Ptw F w (cs.set i c) (l.set i x):=by
 refine⟨by simp[h.1],fun j c' x' hc hx=> ?_⟩;rw[List.getElem?_set]at hc hx;by_cases hj:i=j
 .rw[if_pos hj]at hc hx
  split at hc
  .split at hx
   .cases hc;cases hx;exact hr
   .cases hx
  .cases hc
 .rw[if_neg hj]at hc hx
  exact h.2 j c' x' hc hx
theorem Ptw.keep (h:Ptw F w cs l)(K:Keeps S w w')(hs:∀g,F g->¬S g):Ptw F w' cs l:=⟨h.1,fun i c x hc hx=>Elt.keep (h.2 i c x hc hx) K hs⟩
theorem Ptw.mono (h:Ptw F w cs l)(hs:∀g,F g->g<w.heap.size->G g):Ptw G w cs l:=⟨h.1,fun i c x hc hx=>Elt.mono (h.2 i c x hc hx) hs⟩
theorem Ptw.get (h:Ptw F w cs l){i:Nat}{x:β}(hx:l[i]? =some x):∃c,cs[i]? =some c/\Elt.rel F w c x:=by
 obtain⟨c,A⟩:=yae (l:=cs) (k:=i) (by rw[h.1];exact(zge hx).1);exact⟨c,A,h.2 i c x A hx⟩
end
section
variable{T:MT} {Z:Nat->Prop} {W w1:World} {b:Nat} {v:MV} {p:Img} {s:MS} {v1:Value}
theorem MX.putStk (M:MX T Z W b v p s){cs:List VC}{l1:List Val}(s':MS)(hr:RowAt w1 T.v v1 cs)(hp:Ptw (MZ Z v b) W cs l1)(K:Keeps (fun j=>v.ss.ownBlock=some j) W w1)(hf:∀g,v1.ownBlock=some g->v.ss.ownBlock=some g\/W.heap.size<=g)(hs':s'={s with stk:=l1}):
  MX T Z (w1.setCell ⟨b,0,none⟩ v1) b {v with ss:=v1} p s'/\MK b v W {v with ss:=v1} (w1.setCell ⟨b,0,none⟩ v1):=by
 refine M.setStk s' (XRow.of hr ?_) K hf hs';refine((hp.mono (G:=fun g=>MZ Z v b g/\¬v1.ownBlock=some g) (fun g hg hl=>⟨hg,fun e=> ?_⟩)).keep K (fun g hg e=>hg.1.1 ⟨1,e⟩));rcases hf g e with h|h
 .exact hg.1 ⟨1,h⟩
 .omega
theorem MX.putPls (M:MX T Z W b v p s){cs:List VC}{l1:List Val}(s':MS)(hr:RowAt w1 T.v v1 cs)(hp:Ptw (MZ Z v b) W cs l1)(K:Keeps (fun j=>v.ps.ownBlock=some j) W w1)(hf:∀g,v1.ownBlock=some g->v.ps.ownBlock=some g\/W.heap.size<=g)(hs':s'={s with places:=l1}):
  MX T Z (w1.setCell ⟨b,5,none⟩ v1) b {v with ps:=v1} p s'/\MK b v W {v with ps:=v1} (w1.setCell ⟨b,5,none⟩ v1):=by
 refine M.setPls s' (XRow.of hr ?_) K hf hs';refine((hp.mono (G:=fun g=>MZ Z v b g/\¬v1.ownBlock=some g) (fun g hg hl=>⟨hg,fun e=> ?_⟩)).keep K (fun g hg e=>hg.1.1 ⟨2,e⟩));rcases hf g e with h|h
 .exact hg.1 ⟨2,h⟩
 .omega
theorem MX.putTms (M:MX T Z W b v p s){cs:List TC}{l1:List Th}(s':MS)(hr:RowAt w1 T.t v1 cs)(hp:Ptw (MZ Z v b) W cs l1)(K:Keeps (fun j=>v.ts.ownBlock=some j) W w1)(hf:∀g,v1.ownBlock=some g->v.ts.ownBlock=some g\/W.heap.size<=g)(hs':s'={s with timers:=⟨l1,s.timers.next⟩}):
  MX T Z (w1.setCell ⟨b,12,none⟩ v1) b {v with ts:=v1} p s'/\MK b v W {v with ts:=v1} (w1.setCell ⟨b,12,none⟩ v1):=by
 refine M.setTms s' (XRow.of hr ?_) K hf hs';refine((hp.mono (G:=fun g=>MZ Z v b g/\¬v1.ownBlock=some g) (fun g hg hl=>⟨hg,fun e=> ?_⟩)).keep K (fun g hg e=>hg.1.1 ⟨3,e⟩));rcases hf g e with h|h
 .exact hg.1 ⟨3,h⟩
 .omega
theorem MX.putAcs (M:MX T Z W b v p s){cs:List TC}{l1:List Th}(s':MS)(hr:RowAt w1 T.t v1 cs)(hp:Ptw (MZ Z v b) W cs l1)(K:Keeps (fun j=>v.as_.ownBlock=some j) W w1)(hf:∀g,v1.ownBlock=some g->v.as_.ownBlock=some g\/W.heap.size<=g)(hs':s'={s with acts:=⟨l1,s.acts.next⟩}):
  MX T Z (w1.setCell ⟨b,14,none⟩ v1) b {v with as_:=v1} p s'/\MK b v W {v with as_:=v1} (w1.setCell ⟨b,14,none⟩ v1):=by
 refine M.setAcs s' (XRow.of hr ?_) K hf hs';refine((hp.mono (G:=fun g=>MZ Z v b g/\¬v1.ownBlock=some g) (fun g hg hl=>⟨hg,fun e=> ?_⟩)).keep K (fun g hg e=>hg.1.1 ⟨4,e⟩));rcases hf g e with h|h
 .exact hg.1 ⟨4,h⟩
 .omega
theorem MX.putLts (M:MX T Z W b v p s){cs:List LC}{l1:List Lt}(s':MS)(hr:RowAt w1 T.l v1 cs)(hp:Ptw (MZ Z v b) W cs l1)(K:Keeps (fun j=>v.ls.ownBlock=some j) W w1)(hf:∀g,v1.ownBlock=some g->v.ls.ownBlock=some g\/W.heap.size<=g)(hs':s'={s with letters:=l1}):
  MX T Z (w1.setCell ⟨b,16,none⟩ v1) b {v with ls:=v1} p s'/\MK b v W {v with ls:=v1} (w1.setCell ⟨b,16,none⟩ v1):=by
 refine M.setLts s' (XRow.of hr ?_) K hf hs';refine((hp.mono (G:=fun g=>MZ Z v b g/\¬v1.ownBlock=some g) (fun g hg hl=>⟨hg,fun e=> ?_⟩)).keep K (fun g hg e=>hg.1.1 ⟨5,e⟩));rcases hf g e with h|h
 .exact hg.1 ⟨5,h⟩
 .omega
theorem MX.putMds (M:MX T Z W b v p s){cs:List CC}{l1:List Cm}(s':MS)(hr:RowAt w1 T.c v1 cs)(hp:Ptw (MZ Z v b) W cs l1)(K:Keeps (fun j=>v.ms.ownBlock=some j) W w1)(hf:∀g,v1.ownBlock=some g->v.ms.ownBlock=some g\/W.heap.size<=g)(hs':s'={s with made:=l1}):
  MX T Z (w1.setCell ⟨b,21,none⟩ v1) b {v with ms:=v1} p s'/\MK b v W {v with ms:=v1} (w1.setCell ⟨b,21,none⟩ v1):=by
 refine M.setMds s' (XRow.of hr ?_) K hf hs';refine((hp.mono (G:=fun g=>MZ Z v b g/\¬v1.ownBlock=some g) (fun g hg hl=>⟨hg,fun e=> ?_⟩)).keep K (fun g hg e=>hg.1.1 ⟨6,e⟩));rcases hf g e with h|h
 .exact hg.1 ⟨6,h⟩
 .omega
theorem MZ.step {v':MV}{w':World}(K:MK b v W v' w'){g:Nat}(h:MZ Z v b g)(hl:g<W):MZ Z v' b g:=⟨fun e=>(K.own g e).elim h.1 (fun q=>by omega),h.2⟩
theorem CF.step {v':MV}{w':World}{c:VC}{x:Val}(K:MK b v W v' w')(h:CF (MZ Z v b) W c x):CF (MZ Z v' b) w' c x:=
 ((h.mono (G:=fun g=>MZ Z v b g/\MZ Z v' b g) (fun _ hg hl=>⟨hg,MZ.step K hg hl⟩)).keep K.keeps (fun _ hg e=>hg.1.1 e)).mono (fun _ hg _=>hg.2)
theorem MX.cut (M:MX T Z W b v p s):MX T (fun j=>Z j/\j<W) W b v p s:=M.monoZ (fun _ h l=>⟨h,l⟩)
theorem MX.late {N:Nat}{W':World}(M:MX T (fun j=>Z j/\j<N) W b v p s)(hN:∀j,MO v b j->j<N)(K:Keeps (fun j=>N<=j) W W'):MX T Z W' b v p s:=
 ((M.far K (fun j _ e=>by have:=hN j e;omega) (fun _ h e=>by have:=e.2;omega))).monoZ (fun _ h _=>h.1)
theorem MK.late {v':MV}{w1 w2:World}(K:MK b v W v' w1)(L:Keeps (fun j=>W<=j) w1 w2):MK b v W v' w2:=
 ⟨K.keeps.trans L (fun j hj e=>by omega),K.own⟩
theorem ycK (F:Nat->Prop)(w:World)(n:Int):CF F w ⟨1,n,⟨#[]⟩,none,0,0⟩ (ybD n):=⟨rfl,rfl,rfl,VF.nil _ _⟩
theorem ybj (F:Nat->Prop)(w:World)(x:Bool):CF F w ⟨1,bif x then 1 else 0,⟨#[]⟩,none,0,0⟩ (yaE x):=⟨rfl,rfl,rfl,VF.nil _ _⟩
theorem yk5 (F:Nat->Prop)(w:World)(t:ByteArray):CF F w ⟨2,0,t,none,0,0⟩ (ybZ t):=⟨rfl,rfl,rfl,VF.nil _ _⟩
theorem yaI (F:Nat->Prop)(w:World):CF F w ⟨0,0,⟨#[]⟩,none,0,0⟩ yag:=⟨rfl,rfl,rfl,VF.nil _ _⟩
theorem yad {w':World}(hZ:∀j,W.heap.size<=j->Z j)(h:W<=w'.heap.size):∀j,w'.heap.size<=j->Z j:=fun j hj=>hZ j (znf h hj)
end
end Go.Va
namespace Go.Proofs.YtpagmlndgblhhaaGreatDoor
open Go.RowKit Go.Own Go.Own.MapTy Go.Va Go.Sort
open Go.Own.Cells (sz enc)
def TT:MT:=⟨123,38,193,138,52⟩
def MP (Z:Nat->Prop)(W:World)(b:Nat)(v:MV)(p:Img)(r:Value)(s':MS)(e:Ending)(w':World):Prop:=∃v',e= .returned r/\Hid (MX TT Z w' b v' p s'/\MK b v W v' w')
def MPV (Z:Nat->Prop)(W:World)(b:Nat)(v:MV)(p:Img)(x:Val)(s':MS)(e:Ending)(w':World):Prop:=∃(v':MV) (c:VC),e= .returned (.agg #[c.kind,c.n,c.s,.slice c.la c.ln c.lc])/\Hid (MX TT Z w' b v' p s'/\MK b v W v' w'/\CF (MZ Z v' b) w' c x)
theorem yfY (t:ByteArray)(w:World):Calls Tryz.prog 32 #[t] w (fun e w'=>e= .returned (.agg #[.int .i64 2,.int .i64 0,t,.slice none 0 0])/\Below w w w'):=by
 go_in;go_wp2_with fail;exact zng (v:=.agg #[.int .i64 2,.int .i64 0,t,.slice none 0 0]) (by simp only[results,Tryz.results32];go_simp) rfl ⟨rfl,Keeps.below (S:=fun _=>False) (((Keeps.refl _ _).alloc _)) (znc _) (fun _ _ f=>f)⟩
theorem ybw (x:Bool)(w:World):Calls Tryz.prog 63 #[x] w (fun e w'=>e= .returned (.agg #[.int .i64 1,.int .i64 (bif x then 1 else 0),.string ⟨#[]⟩,.slice none 0 0])/\Below w w w'):=by
 have C:=zhd (ybl (bif x then 1 else 0));cases x
 all_goals
  simp only[znm,znl]at C|-;go_in;go_wp2_with fail;refine(C.o _).mono ?_;rintro e E ⟨rfl,A⟩;have B:=(A.block w (by simp)).trans (znb w _);have D:=zhd (((znv w.heap.size w).alloc (znc _) (.cells #[.int .i64 0,.int .i64 0,.string ⟨#[]⟩,.slice none 0 0] 38)).trans (A.mono (by simp)));have K:=fun o=>zfr B o;have J:=zlt B;have q:∀o,E.cell? ⟨w,o,none⟩=(#[.int .i64 0,.int .i64 0,.string ⟨#[]⟩,.slice none 0 0]:Array Value)[o]? :=fun o=>zch B _;have I:=q 0;have H:=q 1;have G:=q 2;have F:=q 3;simp only[zmc,zma,zmb]at I H G F;clear q B A;go_wp2_with fail
 .exact zng (v:=.agg #[.int .i64 1,.int .i64 0,.string ⟨#[]⟩,.slice none 0 0]) (by simp only[results,Tryz.results63];go_simp) rfl ⟨rfl,yiL D.o _ _ _ _⟩
 .exact zng (v:=.agg #[.int .i64 1,.int .i64 1,.string ⟨#[]⟩,.slice none 0 0]) (by simp only[results,Tryz.results63];go_simp) rfl ⟨rfl,yiL D.o _ _ _ _⟩
theorem yh3 (x:Val)(ck cn:Int)(cs:ByteArray)(la:Option Addr)(ln lc:Nat)(F:Nat->Prop)(w:World)(C:CF F w ⟨ck,cn,cs,la,ln,lc⟩ x)(r:Bool)(hr:ycm x=r):Calls Tryz.prog 158 #[.agg #[ck,cn,cs,.slice la ln lc]] w (fun e w'=>e= .returned (.bool r)/\Below w w w'):=by
 have H:ck=x.kind:=C.kind;have G:cn=x.num:=C.n;have E:cs=x.txt:=C.s;have D:ln=x.list.length:=C.l.elem.1;unfold ycm at hr;rw[<-H,<-G,<-E,<-D]at hr;clear C H G E D;by_cases k1:ck=1
 .subst k1
  have hr:(cn !=0)=r:=hr;have I:=zhd hr;cases hn:(cn !=0)with
  |true=>
   rw[hn]at hr;subst hr;clear I;go_in;go_wp2;go_ret;exact⟨rfl,zal⟩
  |false=>
   rw[hn]at hr;subst hr;clear I;go_in;go_wp2;go_ret;exact⟨rfl,zal⟩
 .have K:(ck==1)=false:=by rw[zna];exact k1
  rw[K]at hr;simp only[znl]at hr;by_cases k2:ck=2
  .subst k2
   have hr:(cs.size !=0)=r:=hr;have B:cs.toList.isEmpty= !r:=by
    rw[<-hr,zml];by_cases h0:cs.size=0
    .have:cs.data.toList=[]:=List.length_eq_zero_iff.1 (by simpa using h0)
     rw[this,h0];rfl
    .have A:(cs.size !=0)=true:=by simpa using h0
     rw[A,Bool.not_true,List.isEmpty_eq_false_iff];exact fun e=>h0 (by have:=congrArg List.length e;simpa using this)
   clear hr;go_in;go_wp2;go_ret;exact⟨by first|rfl|(rw[<-Bool.not_not r];rfl)|(simp;done),zal⟩
  .have A:(ck==2)=false:=by rw[zna];exact k2
   rw[A]at hr;simp only[znl]at hr;by_cases k3:ck=3
   .subst k3
    have hr:decide (0<ln)=r:=hr;have B:decide ((0:Int)<(ln:Int))=r:=by rw[<-hr];simp
    go_in;go_wp2;go_ret;exact⟨by first|rfl|rw[hr]|rw[B],zal⟩
   .have J:(ck==3)=false:=by rw[zna];exact k3
    rw[J]at hr;have hr:false=r:=hr;subst hr;go_in;go_wp2;go_ret;exact⟨rfl,zal⟩
theorem ylM {Z:Nat->Prop}{W wx w1:World}{b n g1 off1 cp cap:Nat}{a:Option Addr}{v:MV}{p:Img}{s:MS}{x:Val}{c z:VC}{ks:List VC}(M:MX TT Z W b v p s)(hv:v.ss= .slice a n cap)(hn:ks.length=n)(hP:Ptw (MZ Z v b) W ks s.stk)(C:CF (MZ Z v b) W c x)(B0:Below W W wx)
  (hr:RowAt w1 38 (.slice (some ⟨g1,off1,none⟩) (n+1) cp) (ks++[z]))(hk:Keeps (fun j=>(Value.slice a n cap).ownBlock=some j) wx w1)(hf:∀g,(Value.slice (some ⟨g1,off1,none⟩) (n+1) cp).ownBlock=some g->(Value.slice a n cap).ownBlock=some g\/wx.heap.size<=g):
  MX TT Z (((((w1.setCell ⟨g1,off1+n*4,none⟩ (.int .i64 c.kind)).setCell ⟨g1,off1+n*4+1,none⟩ (.int .i64 c.n)).setCell ⟨g1,off1+n*4+2,none⟩ (.string c.s)).setCell ⟨g1,off1+n*4+3,none⟩ (.slice c.la c.ln c.lc)).setCell ⟨b,0,none⟩ (.slice (some ⟨g1,off1,none⟩) (n+1) cp)) b {v with ss:=.slice (some ⟨g1,off1,none⟩) (n+1) cp} p (s.push x)/\
  MK b v W {v with ss:=.slice (some ⟨g1,off1,none⟩) (n+1) cp} (((((w1.setCell ⟨g1,off1+n*4,none⟩ (.int .i64 c.kind)).setCell ⟨g1,off1+n*4+1,none⟩ (.int .i64 c.n)).setCell ⟨g1,off1+n*4+2,none⟩ (.string c.s)).setCell ⟨g1,off1+n*4+3,none⟩ (.slice c.la c.ln c.lc)).setCell ⟨b,0,none⟩ (.slice (some ⟨g1,off1,none⟩) (n+1) cp)):=by
 have D:=hr.set (i:=n) (by simp;omega) c;have F:(ks++[z]).set n c=ks++[c]:=by
  rw[List.set_append_right _ _ (by omega),show n - ks.length=0 from by omega];rfl
 rw[F]at D;have B:RowAt ((((w1.setCell ⟨g1,off1+n*4,none⟩ (.int .i64 c.kind)).setCell ⟨g1,off1+n*4+1,none⟩ (.int .i64 c.n)).setCell ⟨g1,off1+n*4+2,none⟩ (.string c.s)).setCell ⟨g1,off1+n*4+3,none⟩ (.slice c.la c.ln c.lc)) 38 (.slice (some ⟨g1,off1,none⟩) (n+1) cp) (ks++[c]):=D;have A:(Value.slice a n cap).ownBlock=some g1\/wx<=g1:=hf g1 rfl;have H:Keeps (fun j=>(Value.slice a n cap).ownBlock=some j) wx ((((w1.setCell ⟨g1,off1+n*4,none⟩ (.int .i64 c.kind)).setCell ⟨g1,off1+n*4+1,none⟩ (.int .i64 c.n)).setCell ⟨g1,off1+n*4+2,none⟩ (.string c.s)).setCell ⟨g1,off1+n*4+3,none⟩ (.slice c.la c.ln c.lc)):=
  (((hk.setCell (p:=⟨g1,off1+n*4,none⟩) A _).setCell (p:=⟨g1,off1+n*4+1,none⟩) A _).setCell (p:=⟨g1,off1+n*4+2,none⟩) A _).setCell (p:=⟨g1,off1+n*4+3,none⟩) A _
 have G:=(zkb (S:=fun _=>False) B0).mono (T:=fun j=>(Value.slice a n cap).ownBlock=some j) (fun _ _ f=>f.elim);have E:=G.trans H (fun _ _ e=>e);rw[<-hv]at E;exact M.putStk (s.push x) B (hP.app (Ptw.one C)) E (fun g A=>by
  rw[hv];rcases hf g A with h|h
  .exact .inl h
  .exact .inr (znf B0.size h)) rfl
theorem yak
  {Z:Nat->Prop}(b:Nat)(v:MV)(p:Img)(s:MS)(W:World)(M:MX TT Z W b v p s)
  (x:Val)(ck cn:Int)(cs:ByteArray)(la:Option Addr)(ln lc:Nat)(C:CF (MZ Z v b) W ⟨ck,cn,cs,la,ln,lc⟩ x)(hl:s.stk.length<=4294967296):
  Calls Tryz.prog 119 #[.pointer (some ⟨b,0,none⟩),.agg #[ck,cn,cs,.slice la ln lc]] W (MP Z W b v p (.tuple #[]) (s.push x)):=by
 obtain⟨ss,ic,ps,Aa,ts,Ad,ls,ms⟩:=v;obtain⟨a,cap,rfl⟩:∃a cap,ss= .slice a s.stk.length cap:=M.stk.slice;obtain⟨U,t,i⟩:=M.stk.cells;obtain⟨wr,D⟩:∃wr,wr=W.alloc (.cells #[ck,cn,cs,.slice la ln lc] 38):=⟨_,rfl⟩;have r:=zlt M.h;have R:=zba D;have q:∀o,wr.cell? ⟨W,o,none⟩=(#[.int .i64 ck,.int .i64 cn,.string cs,.slice la ln lc]:Array Value)[o]? :=fun o=>by rw[D,zch (znb _ _)]
 have f:=q 0;have d:=q 1;have Y:=q 2;have X:=q 3;simp only[zmc,zma,zmb]at f d Y X;have lr:W<wr.heap.size:=by rw[D];simp
 have b1:b<wr:=by omega
 have c1:wr.cell? ⟨b,0,none⟩=some (.slice a s.stk.length cap):=(R.cell (p:=⟨b,0,none⟩) r).trans (M.cell (k:=0) rfl);have z:∀o,wr.frozen? ⟨b,o,none⟩=false:=fun o=>(R.frozen (p:=⟨b,o,none⟩) r).trans (M.frozen o);have n:∀g,(Value.slice a s.stk.length cap).ownBlock=some g->g≠b/\g≠W.heap.size:=fun g hg=>⟨fun e=>absurd (M.sep 1 0 g hg (by rw[e];rfl)) (by decide),fun e=>by have:=M.stk.lt hg;omega⟩;have K:=zh5 M (t.below R) i C R;have NB:=zhd n;have n6:¬W.heap.size=b:=by omega
 have P:=i.1;have J:=zhd (show(U.length+[(⟨0,0,⟨#[]⟩,none,0,0⟩:VC)].length)*56<=140737488355328/\U.length+[(⟨0,0,⟨#[]⟩,none,0,0⟩:VC)].length<=maxLen/\U.length+[(⟨0,0,⟨#[]⟩,none,0,0⟩:VC)].length=s.stk.length+1 from by unfold maxLen;simp;omega);have Ab:(s.stk.length:Int)<(s.stk.length:Int)+1:=by omega
 have Ac:(0:Int)<=(s.stk.length:Int):=by omega
 have Q:=zhd P;clear n q t i C M R P;go_in;go_wp2_with fail;rw[<-D];clear D;go_region_law ((refine yaC (α:=VC) (o:=⟨some 11,_,_,_,_,_⟩) yfO (by rfl) (.tmp 7) (.tmp 10) (by rfl) (v:=.slice a s.stk.length cap) (u:=.slice (some ⟨wr,0,none⟩) 1 1) (by rfl) (by rfl) (xs:=U) (ys:=[⟨0,0,⟨#[]⟩,none,0,0⟩]) ((K.o.2.1.drew).alloc _) (RowAt.lit (α:=VC) (y:=⟨0,0,⟨#[]⟩,none,0,0⟩) (znb _ _)) J.o.1 J.o.2.1 (s.stk.length+1) J.o.2.2 ?_;intro a1 cp l G H I;obtain⟨E,A,rfl,⟨m0,m1,m2,m3⟩,fm,m,L,N,⟨T,n2,n3,n4⟩,l1,l2,l3⟩:=ygS (b:=b) (B:=W.heap.size) Q.o G H I b1 lr NB.o;have y1:=(m 0).trans c1;have y2:=(N 0).trans f;have y3:=(N 1).trans d;have y4:=(N 2).trans Y;have y5:=(N 3).trans X;have y6:=fun o=>(L o).trans (z o);have j:=zh3 G H I;clear G H I m L N))
 all_goals
  obtain⟨V,F⟩:∃V,V=((((l.setCell ⟨E,A+s.stk.length*4,none⟩ (.int .i64 ck)).setCell ⟨E,A+s.stk.length*4+1,none⟩ (.int .i64 cn)).setCell ⟨E,A+s.stk.length*4+2,none⟩ (.string cs)).setCell ⟨E,A+s.stk.length*4+3,none⟩ (.slice la ln lc)).setCell ⟨b,0,none⟩ (.slice (some ⟨E,A,none⟩) (s.stk.length+1) cp):=⟨_,rfl⟩;have O:V=((((l.setCell ⟨b,0,none⟩ (.slice (some ⟨E,A,none⟩) (s.stk.length+1) cp)).setCell ⟨E,A+s.stk.length*4,none⟩ (.int .i64 ck)).setCell ⟨E,A+s.stk.length*4+1,none⟩ (.int .i64 cn)).setCell ⟨E,A+s.stk.length*4+2,none⟩ (.string cs)).setCell ⟨E,A+s.stk.length*4+3,none⟩ (.slice la ln lc):=by rw[F,yaQ T,yaQ T,yaQ T,yaQ T]
  first
  |rw[<-F]
  |rw[<-O]
  have S:=ylM (c:=⟨ck,cn,cs,la,ln,lc⟩) (x:=x) K.o.1 rfl Q.o K.o.2.2.1 K.o.2.2.2.1 ((K.o.2.2.2.2.drew).alloc (by have:=K.o.2.2.2.2.size;exact this) _) j.o.1 j.o.2.1 j.o.2.2;rw[<-F]at S;have HS:=zhd S;clear S F O y1 y2 y3 y4 y5 y6 m0 m1 m2 m3 fm c1 z f d Y X;go_wp2_with fail
  go_end0
  exact⟨_,rfl,zhd HS.o⟩
theorem ykg {Z:Nat->Prop}{W wx wy:World}{b n cap:Nat}{a:Option Addr}{v:MV}{p:Img}{s:MS}{ks:List VC}{c:VC}{x:Val}(M:MX TT Z W b v p s)(hv:v.ss= .slice a n cap)(hn:s.stk.length=n)(hR:RowAt W 38 (.slice a n cap) ks)(hP:Ptw (MZ Z v b) W ks s.stk)(C:CF (MZ Z v b) W c x)
  (B0:Below W W wx)(L:Keeps (fun j=>W<=j) (wx.setCell ⟨b,0,none⟩ (.slice a (n - 1) (n - 1))) wy):
  MX TT Z wy b {v with ss:=.slice a (n - 1) (n - 1)} p s.pop/\MK b v W {v with ss:=.slice a (n - 1) (n - 1)} wy/\CF (MZ Z {v with ss:=.slice a (n - 1) (n - 1)} b) wy c x:=by
 have E:ks.length=n:=by rw[hP.1,hn]
 obtain⟨H,F⟩:=RowAt.pre3 hR (n:=n - 1) (by omega);have B:=hP.pop;rw[E]at B;have G:=(zkb (S:=fun _=>False) B0).mono (T:=fun j=>v.ss.ownBlock=some j) (fun _ _ f=>f.elim);have A:∀g,(Value.slice a (n - 1) (n - 1)).ownBlock=some g->v.ss.ownBlock=some g:=fun g hg=>by
  rw[hv];cases a with
  |none=>cases hg
  |some ad=>exact hg
 have S:=M.cut.putStk (v1:=.slice a (n - 1) (n - 1)) s.pop (F.below B0) (B.mono (fun g h l=>⟨h.1,h.2,l⟩)) G (fun g hg=>.inl (A g hg)) rfl;have D:=S.2.late L;refine⟨S.1.late (fun j hj=> ?_) L,D,C.step D⟩;rcases S.2.own j hj with h|h
 .exact M.lt h
 .rcases MO.turned (v:=v) (i0:=1) (fun i hi=>by
   match i with
   |0=>rfl
   |1=>exact absurd rfl hi
   |2=>rfl
   |3=>rfl
   |4=>rfl
   |5=>rfl
   |6=>rfl
   |_+7=>rfl) hj with h|h
  .exact M.lt h
  .exact M.lt ⟨1,A j h⟩
theorem yaj
  {Z:Nat->Prop}(b:Nat)(v:MV)(p:Img)(s:MS)(W:World)(M:MX TT Z W b v p s)
  :Calls Tryz.prog 159 #[.pointer (some ⟨b,0,none⟩)] W (MPV Z W b v p s.top s.pop):=by
 obtain⟨Y,ic,r,c,q,m,ls,u⟩:=v;obtain⟨a,cap,rfl⟩:∃a cap,Y= .slice a s.stk.length cap:=M.stk.slice;obtain⟨ks,A,E⟩:=M.stk.cells;have b1:=zlt M.h;have c1:W.cell? ⟨b,0,none⟩=some (.slice a s.stk.length cap):=M.cell (k:=0) rfl;have f0:∀o,W.frozen? ⟨b,o,none⟩=false:=fun o=>M.frozen o;have I:=zh3 M A E;by_cases h0:s.stk.length=0
 .have J:s.stk=[]:=List.length_eq_zero_iff.1 h0
  have F:s.top=yag:=by unfold MS.top;rw[J];rfl
  have V:s.pop=s:=by unfold MS.pop;rw[J];simp only[List.dropLast_nil];rw[<-J]
  have D:=zh2 F V;have R:((s.stk.length:Int)==0)=true:=by rw[beq_iff_eq];omega
  clear J F V A E M h0;go_in;go_wp2_with fail;exact zng (v:=.agg #[.int .i64 0,.int .i64 0,.string ⟨#[]⟩,.slice none 0 0]) (by simp only[results,Tryz.results159];go_simp) rfl ⟨_,⟨0,0,⟨#[]⟩,none,0,0⟩,rfl,zhd (by
   have B:Below W W _:=(znv W.heap.size W).alloc (znc _) (.cells #[.int .i64 0,.int .i64 0,.string ⟨#[]⟩,.slice none 0 0] 38);rw[D.o.1,D.o.2];exact⟨I.o.1.ext B,MK.ext B,yaI _ _⟩)⟩
 .obtain⟨n,K⟩:∃n,s.stk.length=n+1:=⟨s.stk.length - 1,by omega⟩
  obtain⟨x,P⟩:=yae (l:=s.stk) (k:=n) (by omega);obtain⟨⟨U,T,S,O,L,N⟩,Q,X⟩:=E.get P;obtain⟨g,C,rfl,hg⟩:=A.addr Q;have H:=fun(j:Nat) (hj:j<4)=>A.cell Q (j:=j) hj;have m0:W.cell? ⟨g,C+n*4,none⟩=some (.int .i64 U):=H 0 (by decide);have m1:W.cell? ⟨g,C+n*4+1,none⟩=some (.int .i64 T):=by rw[zmm];exact H 1 (by decide)
  have z:W.cell? ⟨g,C+n*4+2,none⟩=some (.string S):=by rw[zmm];exact H 2 (by decide)
  have y:W.cell? ⟨g,C+n*4+3,none⟩=some (.slice O L N):=by rw[zmm];exact H 3 (by decide)
  have F:s.top=x:=by
   unfold MS.top;rw[List.getLast?_eq_getElem?,show s.stk.length - 1=n from by omega,P];rfl
  have D:=zh3 F X K;have t:¬g=b:=fun e=>absurd (I.o.1.sep 1 0 g rfl (by rw[e];rfl)) (by decide);rw[K]at c1;have R:(((n+1:Nat):Int)==0)=false:=by rw[zna];omega
  have G:(n:Int)<9223372036854775807:=by
   have i:=A.length_le;have:=E.1;unfold maxLen at i;omega
  have d:wrap64 (n:Int)=(n:Int):=by unfold wrap64;omega
  clear G;obtain⟨f,_⟩:=ykY yfO (K▸A) (k:=n) (by have:=E.1;omega);clear X F Q P H A E M K;go_in;go_wp2_with fail;exact zng (v:=.agg #[U,T,S,.slice O L N]) (by simp only[results,Tryz.results159];go_simp) rfl ⟨_,⟨U,T,S,O,L,N⟩,rfl,zhd (by
   have A:=I.o.2.1;rw[D.o.2.2]at A;rw[D.o.1];exact ykg (n:=n+1) (x:=x) (wx:=W) I.o.1 (by rw[D.o.2.2]) D.o.2.2 A I.o.2.2 D.o.2.1 (znv _ _) ((((Keeps.refl (fun j=>W<=j) _).alloc _).alloc _)))⟩
theorem ybQ
  {Z:Nat->Prop}(b:Nat)(v:MV)(p:Img)(s:MS)(W:World)(M:MX TT Z W b v p s)
  :Calls Tryz.prog 160 #[.pointer (some ⟨b,0,none⟩)] W (MPV Z W b v p s.top s):=by
 obtain⟨X,ic,m,Y,i,f,z,q⟩:=v;obtain⟨a,cap,rfl⟩:∃a cap,X= .slice a s.stk.length cap:=M.stk.slice;obtain⟨ks,C,F⟩:=M.stk.cells;have b1:=zlt M.h;have c1:W.cell? ⟨b,0,none⟩=some (.slice a s.stk.length cap):=M.cell (k:=0) rfl;have V:=zh3 M C F;by_cases h0:s.stk.length=0
 .have S:s.stk=[]:=List.length_eq_zero_iff.1 h0
  have D:s.top=yag:=by unfold MS.top;rw[S];rfl
  have O:=zhd D;have R:decide (0<s.stk.length)=false:=znd (by omega);have e:¬0<s.stk.length:=by omega
  clear S D C F M h0;go_in;go_wp2_with fail;exact zng (v:=.agg #[.int .i64 0,.int .i64 0,.string ⟨#[]⟩,.slice none 0 0]) (by simp only[results,Tryz.results160];go_simp) rfl ⟨_,⟨0,0,⟨#[]⟩,none,0,0⟩,rfl,zhd (by
   have B:Below W W _:=(znv W.heap.size W).alloc (znc _) (.cells #[.int .i64 0,.int .i64 0,.string ⟨#[]⟩,.slice none 0 0] 38);rw[O.o];exact⟨V.o.1.ext B,MK.ext B,yaI _ _⟩)⟩
 .obtain⟨n,T⟩:∃n,s.stk.length=n+1:=⟨s.stk.length - 1,by omega⟩
  obtain⟨x,P⟩:=yae (l:=s.stk) (k:=n) (by omega);obtain⟨⟨N,L,K,J,H,I⟩,Q,U⟩:=F.get P;obtain⟨g,A,rfl,hg⟩:=C.addr Q;have G:=fun(j:Nat) (hj:j<4)=>C.cell Q (j:=j) hj;have y:W.cell? ⟨g,A+n*4,none⟩=some (.int .i64 N):=G 0 (by decide);have u:W.cell? ⟨g,A+n*4+1,none⟩=some (.int .i64 L):=by rw[zmm];exact G 1 (by decide)
  have t:W.cell? ⟨g,A+n*4+2,none⟩=some (.string K):=by rw[zmm];exact G 2 (by decide)
  have r:W.cell? ⟨g,A+n*4+3,none⟩=some (.slice J H I):=by rw[zmm];exact G 3 (by decide)
  have D:s.top=x:=by
   unfold MS.top;rw[List.getLast?_eq_getElem?,show s.stk.length - 1=n from by omega,P];rfl
  have O:=zh2 D U;rw[T]at c1;have R:decide ((0:Int)<((n:Int)+1))=true:=zno (by omega);have E:(n:Int)<9223372036854775807:=by
   have d:=C.length_le;have:=F.1;unfold maxLen at d;omega
  have c:wrap64 (n:Int)=(n:Int):=by unfold wrap64;omega
  clear E U D Q P G C F M T h0;go_in;go_wp2_with fail;exact zng (v:=.agg #[N,L,K,.slice J H I]) (by simp only[results,Tryz.results160];go_simp) rfl ⟨_,⟨N,L,K,J,H,I⟩,rfl,zhd (by
   have B:Below W W _:=(znv W.heap.size W).alloc (znc _) (.cells #[N,L,K,.slice J H I] 38);rw[O.o.1];exact⟨V.o.1.ext B,MK.ext B,CF.step (MK.ext B) O.o.2⟩)⟩
theorem yeU:ElemOf TC Tryz.prog 118 193 80:=ycj Tryz.underlying118 (z:=.agg #[.int .i64 0,.bool false,.int .i64 0,.int .i64 0,.string .empty,.slice none 0 0,.int .i64 0]) (n:=7) (by kernel_rfl) rfl rfl
theorem ykU:ElemOf LC Tryz.prog 121 138 72:=ycj Tryz.underlying121 (z:=.agg #[.string .empty,.int .i64 0,.int .i64 0,.string .empty,.slice none 0 0]) (n:=5) (by kernel_rfl) rfl rfl
theorem ynH:ElemOf CC Tryz.prog 41 52 104:=ycj Tryz.underlying41 (z:=.agg #[.int .i64 0,.int .i64 0,.int .i64 0,.int .i64 0,.string .empty,.int .i64 0,.int .i64 0,.string .empty,.slice none 0 0]) (n:=9) (by kernel_rfl) rfl rfl
def ybL (id:Int)(l:List Th):Int:=match yax id l with|none=> -1|some i=>(i:Int)
def ltI (nm:ByteArray)(l:List Lt):Int:=match yao nm l with|none=> -1|some i=>(i:Int)
theorem yjq {id:Int}{l:List Th}{i:Nat}{x:Th}{r:Option Nat}(hx:l[i]? =some x)(hne:x.id≠id)(h:r=(yax id (l.drop i)).map (· +i)):r=(yax id (l.drop (i+1))).map (· +(i+1)):=by
 rw[h,yc9 hx,yax,if_neg hne];cases yax id (l.drop (i+1))with
 |none=>rfl
 |some j=>show some (j+1+i)=some (j+(i+1));congr 1;omega
theorem yjr {id:Int}{l:List Th}{i:Nat}{x:Th}{r:Option Nat}(hx:l[i]? =some x)(he:x.id=id)(h:r=(yax id (l.drop i)).map (· +i)):r=some i:=by
 rw[h,yc9 hx,yax,if_pos he];show some (0+i)=some i;rw[Nat.zero_add]
theorem yhC {id:ByteArray}{l:List Lt}{i:Nat}{x:Lt}{r:Option Nat}(hx:l[i]? =some x)(hne:x.name≠id)(h:r=(yao id (l.drop i)).map (· +i)):r=(yao id (l.drop (i+1))).map (· +(i+1)):=by
 rw[h,yc9 hx,yao,if_neg hne];cases yao id (l.drop (i+1))with
 |none=>rfl
 |some j=>show some (j+1+i)=some (j+(i+1));congr 1;omega
theorem yhD {id:ByteArray}{l:List Lt}{i:Nat}{x:Lt}{r:Option Nat}(hx:l[i]? =some x)(he:x.name=id)(h:r=(yao id (l.drop i)).map (· +i)):r=some i:=by
 rw[h,yc9 hx,yao,if_pos he];show some (0+i)=some i;rw[Nat.zero_add]
theorem yiq {r:Option Nat}:r=r.map (· +0):=by cases r<;>rfl
def yqe (W:World)(id:Int)(l:List Th)(gk:Nat)(v11:Value)(wr:World):Prop:=
 ∃i:Nat,v11= .int .i64 i/\i<=l.length/\gk=l.length - i/\yax id l=(yax id (l.drop i)).map (· +i)/\wr=W
theorem yaR (b o:Nat)(id:Int)(l:List Th)(a:Option Addr)(cap:Nat)(F:Nat->Prop)(W:World)(c0:W.cell? ⟨b,o,none⟩=some (.slice a l.length cap))(H:XRow F W 193 (.slice a l.length cap) l)(hb:b<W)(r:Int)(hr:ybL id l=r):
  Calls Tryz.prog 138 #[.pointer (some ⟨b,o,none⟩),id] W (fun e w'=>e= .returned (.int .i64 r)/\w'=W):=by
 have I:l.length<=maxLen:=by
  obtain⟨X,Q,P,_⟩:=H;rw[<-P];exact Q.length_le
 have M:=zh2 H hr;clear H hr;go_in;go_wp2_with fail;go_loopg [11] (l.length) (fun gk v11 wr=>yqe W id l gk v11 wr)
 case atStart=>exact⟨0,rfl,znq _,rfl,yiq,rfl⟩
 case round=>
  obtain⟨i,rfl,U,A,D,rfl⟩:=hrel;by_cases hin:i<l.length
  .obtain⟨x,G⟩:=yae hin
   obtain⟨g,O,c,rfl,V,L,_,B⟩:=M.o.1.at_ G;have N:=B 0 _ rfl;have C:c.id=x.id:=L.id;rw[C]at N;simp only[sz,Nat.add_zero]at N;have E:(i:Int)<l.length:=by omega
   have S:=zhd (show l.length - (i+1)<gk from by omega);have R:=zhd (show wrap64 ((i:Int)+1)=(i:Int)+1 from by unfold maxLen at I;unfold wrap64;omega);have J:i+1<=l.length:=by omega
   by_cases he:x.id=id
   .have K:(x.id==id)=true:=by rw[beq_iff_eq];exact he
    have hr:=M.o.2;unfold ybL at hr;rw[yjr G he D]at hr;have hr:(i:Int)=r:=hr;subst hr;clear D B L C A he;go_wp2;go_ret;exact⟨rfl,rfl⟩
   .have K:(x.id==id)=false:=by rw[zna];exact he
    have T:=zhd (yjq G he D);clear D B L C A he;go_wp2_with fail;go_roundg (l.length - (i+1))
    case measure=>exact S.o
    case rel=>exact⟨i+1,by rw[R.o];simp,J,rfl,T.o,rfl⟩
  .have E:¬(i:Int)<l.length:=by omega
   have hr:=M.o.2;unfold ybL at hr;rw[D,zns (by omega)]at hr;have hr:(-1:Int)=r:=hr;subst hr;clear D A;go_wp2;go_ret;exact⟨rfl,rfl⟩
theorem ygO
  {Z:Nat->Prop}(b:Nat)(v:MV)(p:Img)(s:MS)(W:World)(M:MX TT Z W b v p s)
  (hn:0<=s.timers.next/\s.timers.next<=4611686018427387904)(hl:s.timers.list.length<=4294967296)(s':MS)(hs':s'={s with timers:=yck s.timers}):
  Calls Tryz.prog 180 #[.pointer (some ⟨b,12,none⟩)] W (MP Z W b v p (.int .i64 (s.timers.next+1)) s'):=by
 obtain⟨t,ic,z,l,j,q,ls,ms⟩:=v;obtain⟨a,cap,rfl⟩:∃a cap,j= .slice a s.timers.list.length cap:=M.tms.slice;obtain⟨k,hk⟩:∃k,s.timers.next=k:=⟨_,rfl⟩;have hw:wrap64 (k+1)=k+1:=by unfold wrap64;omega
 have n:=zlt M.h;have c1:W.cell? ⟨b,12+1,none⟩=some (.int .i64 k):=by rw[<-hk];exact M.cell (k:=12+1) rfl
 have O:∀o,W.frozen? ⟨b,o,none⟩=false:=fun o=>M.frozen o;have V:=M.scalar (12+1) (.int .i64 (k+1)) {s with timers:=⟨s.timers.list,k+1⟩} rfl rfl rfl rfl rfl rfl rfl rfl;have D:=zh5 V hs' hk hl hn;clear V M hs' hk hl hn;go_in;go_wp2_with fail;obtain⟨wr,A⟩:∃wr,wr=W.setCell ⟨b,12+1,none⟩ (.int .i64 (k+1)):=⟨_,rfl⟩;have C:=zh2 (A▸D.o.1.1) (A▸D.o.1.2);rw[<-A];clear A c1 O n;have c0:wr.cell? ⟨b,12,none⟩=some (.slice a s.timers.list.length cap):=C.o.1.cell (k:=12) rfl;have c1:wr.cell? ⟨b,12+1,none⟩=some (.int .i64 (k+1)):=C.o.1.cell (k:=12+1) rfl;have O:∀o,wr.frozen? ⟨b,o,none⟩=false:=fun o=>C.o.1.frozen o;have m:=zlt C.o.1.h;obtain⟨G,R,L⟩:=C.o.1.tms.cells;have N:G.length=s.timers.list.length:=L.1;have Y:=zh2 R L;have r:=zhd (show∀g,(Value.slice a s.timers.list.length cap).ownBlock=some g->g≠b from fun g hg e=>absurd (C.o.1.sep 3 0 g hg (by rw[e];rfl)) (by decide))
 have F:=zhd (show(G.length+[(⟨k+1,false,⟨0,0,⟨#[]⟩,none,0,0⟩,0⟩:TC)].length)*80<=140737488355328/\G.length+[(⟨k+1,false,⟨0,0,⟨#[]⟩,none,0,0⟩,0⟩:TC)].length<=maxLen/\G.length+[(⟨k+1,false,⟨0,0,⟨#[]⟩,none,0,0⟩,0⟩:TC)].length=s.timers.list.length+1 from by have:=D.o.2.2.2.1;unfold maxLen;simp;omega);clear R L N;go_region_law ((refine yaC (α:=TC) (o:=⟨some 21,_,_,_,_,_⟩) yeU (by rfl) (.tmp 14) (.tmp 20) (by rfl) (v:=.slice a s.timers.list.length cap) (u:=.slice (some ⟨wr,0,none⟩) 1 1) (by rfl) (by rfl) (xs:=G) (ys:=[⟨k+1,false,⟨0,0,⟨#[]⟩,none,0,0⟩,0⟩]) ((Y.o.1.drew).alloc _) (RowAt.lit (α:=TC) (y:=⟨k+1,false,⟨0,0,⟨#[]⟩,none,0,0⟩,0⟩) (znb _ _)) F.o.1 F.o.2.1 (s.timers.list.length+1) F.o.2.2 ?_;intro U T w1 I E J;have B:=(E.block b (by simp;omega) (fun e=>r.o _ e rfl)).trans ((zne _ _ _ m).trans C.o.1.h);have i:w1.cell? ⟨b,12,none⟩=some (.slice a s.timers.list.length cap):=(by rw[zch B];rfl);have d:∀o,w1.frozen? ⟨b,o,none⟩=false:=(fun o=>zfr B o);have c:b<w1:=zlt B;have P:=zh3 I E J;clear I E J B))
 all_goals
  have Q:Below wr wr (wr.drew.alloc (.cells (enc (⟨k+1,false,⟨0,0,⟨#[]⟩,none,0,0⟩,0⟩:TC)).toArray 193)):=((znv wr.heap.size wr).drew).alloc (znc _) _;have S:=C.o.1.putTms (v1:=.slice U (s.timers.list.length+1) T) s' P.o.1 (Y.o.2.app (Ptw.one (x:=⟨k+1,false,yag,0⟩) ⟨rfl,rfl,yaI _ _,rfl⟩)) (((zkb (S:=fun _=>False) Q).mono (fun _ _ f=>f.elim)).trans P.o.2.1 (fun _ _ e=>e)) (fun g hg=>(P.o.2.2 g hg).imp id (fun h=>znf Q.size h)) (by rw[D.o.2.1];unfold yck;rw[D.o.2.2.1];rfl);obtain⟨K,H⟩:∃K,K=w1.setCell ⟨b,12,none⟩ (.slice U (s.timers.list.length+1) T):=⟨_,rfl⟩;rw[<-H]at S|-;have X:=zhd S;have d1:K.cell? ⟨b,12+1,none⟩=some (.int .i64 (k+1)):=by
   have:=S.1.cell (k:=12+1) (u:=.int .i64 s'.timers.next) rfl;rw[this,D.o.2.1,<-D.o.2.2.1];rfl
  have bz:=zlt S.1.h;have fz:∀o,K.frozen? ⟨b,o,none⟩=false:=fun o=>S.1.frozen o;clear S H i d c c0 c1 O Q;go_wp2;go_ret;exact⟨_,by rw[D.o.2.2.1];rfl,zhd ⟨X.o.1,C.o.2.trans X.o.2⟩⟩
theorem ygP
  {Z:Nat->Prop}(b:Nat)(v:MV)(p:Img)(s:MS)(W:World)(M:MX TT Z W b v p s)
  (hn:0<=s.acts.next/\s.acts.next<=4611686018427387904)(hl:s.acts.list.length<=4294967296)(s':MS)(hs':s'={s with acts:=yck s.acts}):
  Calls Tryz.prog 180 #[.pointer (some ⟨b,14,none⟩)] W (MP Z W b v p (.int .i64 (s.acts.next+1)) s'):=by
 obtain⟨t,ic,z,l,r,P,ls,ms⟩:=v;obtain⟨a,cap,rfl⟩:∃a cap,P= .slice a s.acts.list.length cap:=M.acs.slice;obtain⟨k,hk⟩:∃k,s.acts.next=k:=⟨_,rfl⟩;have hw:wrap64 (k+1)=k+1:=by unfold wrap64;omega
 have n:=zlt M.h;have c1:W.cell? ⟨b,14+1,none⟩=some (.int .i64 k):=by rw[<-hk];exact M.cell (k:=14+1) rfl
 have O:∀o,W.frozen? ⟨b,o,none⟩=false:=fun o=>M.frozen o;have X:=M.scalar (14+1) (.int .i64 (k+1)) {s with acts:=⟨s.acts.list,k+1⟩} rfl rfl rfl rfl rfl rfl rfl rfl;have D:=zh5 X hs' hk hl hn;clear X M hs' hk hl hn;go_in;go_wp2_with fail;obtain⟨wr,A⟩:∃wr,wr=W.setCell ⟨b,14+1,none⟩ (.int .i64 (k+1)):=⟨_,rfl⟩;have C:=zh2 (A▸D.o.1.1) (A▸D.o.1.2);rw[<-A];clear A c1 O n;have c0:wr.cell? ⟨b,14,none⟩=some (.slice a s.acts.list.length cap):=C.o.1.cell (k:=14) rfl;have c1:wr.cell? ⟨b,14+1,none⟩=some (.int .i64 (k+1)):=C.o.1.cell (k:=14+1) rfl;have O:∀o,wr.frozen? ⟨b,o,none⟩=false:=fun o=>C.o.1.frozen o;have m:=zlt C.o.1.h;obtain⟨G,T,L⟩:=C.o.1.acs.cells;have N:G.length=s.acts.list.length:=L.1;have c:=zh2 T L;have q:=zhd (show∀g,(Value.slice a s.acts.list.length cap).ownBlock=some g->g≠b from fun g hg e=>absurd (C.o.1.sep 4 0 g hg (by rw[e];rfl)) (by decide))
 have F:=zhd (show(G.length+[(⟨k+1,false,⟨0,0,⟨#[]⟩,none,0,0⟩,0⟩:TC)].length)*80<=140737488355328/\G.length+[(⟨k+1,false,⟨0,0,⟨#[]⟩,none,0,0⟩,0⟩:TC)].length<=maxLen/\G.length+[(⟨k+1,false,⟨0,0,⟨#[]⟩,none,0,0⟩,0⟩:TC)].length=s.acts.list.length+1 from by have:=D.o.2.2.2.1;unfold maxLen;simp;omega);clear T L N;go_region_law ((refine yaC (α:=TC) (o:=⟨some 21,_,_,_,_,_⟩) yeU (by rfl) (.tmp 14) (.tmp 20) (by rfl) (v:=.slice a s.acts.list.length cap) (u:=.slice (some ⟨wr,0,none⟩) 1 1) (by rfl) (by rfl) (xs:=G) (ys:=[⟨k+1,false,⟨0,0,⟨#[]⟩,none,0,0⟩,0⟩]) ((c.o.1.drew).alloc _) (RowAt.lit (α:=TC) (y:=⟨k+1,false,⟨0,0,⟨#[]⟩,none,0,0⟩,0⟩) (znb _ _)) F.o.1 F.o.2.1 (s.acts.list.length+1) F.o.2.2 ?_;intro V U w1 I E J;have B:=(E.block b (by simp;omega) (fun e=>q.o _ e rfl)).trans ((zne _ _ _ m).trans C.o.1.h);have j:w1.cell? ⟨b,14,none⟩=some (.slice a s.acts.list.length cap):=(by rw[zch B];rfl);have i:∀o,w1.frozen? ⟨b,o,none⟩=false:=(fun o=>zfr B o);have d:b<w1:=zlt B;have Q:=zh3 I E J;clear I E J B))
 all_goals
  have R:Below wr wr (wr.drew.alloc (.cells (enc (⟨k+1,false,⟨0,0,⟨#[]⟩,none,0,0⟩,0⟩:TC)).toArray 193)):=((znv wr.heap.size wr).drew).alloc (znc _) _;have S:=C.o.1.putAcs (v1:=.slice V (s.acts.list.length+1) U) s' Q.o.1 (c.o.2.app (Ptw.one (x:=⟨k+1,false,yag,0⟩) ⟨rfl,rfl,yaI _ _,rfl⟩)) (((zkb (S:=fun _=>False) R).mono (fun _ _ f=>f.elim)).trans Q.o.2.1 (fun _ _ e=>e)) (fun g hg=>(Q.o.2.2 g hg).imp id (fun h=>znf R.size h)) (by rw[D.o.2.1];unfold yck;rw[D.o.2.2.1];rfl);obtain⟨K,H⟩:∃K,K=w1.setCell ⟨b,14,none⟩ (.slice V (s.acts.list.length+1) U):=⟨_,rfl⟩;rw[<-H]at S|-;have Y:=zhd S;have d1:K.cell? ⟨b,14+1,none⟩=some (.int .i64 (k+1)):=by
   have:=S.1.cell (k:=14+1) (u:=.int .i64 s'.acts.next) rfl;rw[this,D.o.2.1,<-D.o.2.2.1];rfl
  have bz:=zlt S.1.h;have fz:∀o,K.frozen? ⟨b,o,none⟩=false:=fun o=>S.1.frozen o;clear S H j i d c0 c1 O R;go_wp2;go_ret;exact⟨_,by rw[D.o.2.2.1];rfl,zhd ⟨Y.o.1,C.o.2.trans Y.o.2⟩⟩
end Go.Proofs.YtpagmlndgblhhaaGreatDoor
