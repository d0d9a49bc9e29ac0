/- Parts of the proof: what the functions and the plain laws give that later parts lean on. Conditions: none beyond those that each theorem names. -/
import Derived.Test.YtpagmlndgblhhaaGreatDoorR11
set_option maxRecDepth 100000
set_option maxHeartbeats 8000000
namespace Go.Va
open Go.Own Go.RowKit
open Cells (sz enc)
class Elt (α:outParam Type) (β:Type) [Cells α] where
 rel:(Nat→Prop)→World→α→β→Prop
 keep:∀{F S:Nat→Prop} {w w':World} {c:α} {x:β},rel F w c x→Keeps S w w'→(∀g,F g→¬S g)→rel F w' c x
 mono:∀{F G:Nat→Prop} {w:World} {c:α} {x:β},rel F w c x→(∀g,F g→g<w.heap.size→G g)→rel G w c x
instance:Elt VC Val where
 rel:=CF
 keep:=CF.keep
 mono:=CF.mono
structure TC where
 id:Int
 over:Bool
 v:VC
 how:Int
instance:Cells TC where
 sz:=7
 enc:=fun c=>[.int .i64 c.id,.bool c.over,.int .i64 c.v.kind,.int .i64 c.v.n,.string c.v.s,.slice c.v.la c.v.ln c.v.lc,.int .i64 c.how]
 len:=fun _=>rfl
 one:=by
  intro x v hv;simp at hv;rcases hv with rfl|rfl|rfl|rfl|rfl|rfl|rfl<;>rfl
structure TF (F:Nat→Prop)(w:World)(c:TC)(x:Th):Prop where
 id:c.id=x.id
 over:c.over=x.over
 v:CF F w c.v x.result
 how:c.how=x.how
instance:Elt TC Th where
 rel:=TF
 keep:=fun h K hs=>⟨h.id,h.over,h.v.keep K hs,h.how⟩
 mono:=fun h hs=>⟨h.id,h.over,h.v.mono hs,h.how⟩
structure LC where
 name:ByteArray
 v:VC
instance:Cells LC where
 sz:=5
 enc:=fun c=>[.string c.name,.int .i64 c.v.kind,.int .i64 c.v.n,.string c.v.s,.slice c.v.la c.v.ln c.v.lc]
 len:=fun _=>rfl
 one:=by
  intro x v hv;simp at hv;rcases hv with rfl|rfl|rfl|rfl|rfl<;>rfl
structure LF (F:Nat→Prop)(w:World)(c:LC)(x:Lt):Prop where
 name:c.name=x.name
 v:CF F w c.v x.v
instance:Elt LC Lt where
 rel:=LF
 keep:=fun h K hs=>⟨h.name,h.v.keep K hs⟩
 mono:=fun h hs=>⟨h.name,h.v.mono hs⟩
structure CC where
 kind:Int
 time:Int
 a:Int
 b:Int
 name:ByteArray
 v:VC
instance:Cells CC where
 sz:=9
 enc:=fun c=>[.int .i64 c.kind,.int .i64 c.time,.int .i64 c.a,.int .i64 c.b,.string c.name,.int .i64 c.v.kind,.int .i64 c.v.n,.string c.v.s,.slice c.v.la c.v.ln c.v.lc]
 len:=fun _=>rfl
 one:=by
  intro x v hv;simp at hv;rcases hv with rfl|rfl|rfl|rfl|rfl|rfl|rfl|rfl|rfl<;>rfl
structure CmF (F:Nat→Prop)(w:World)(c:CC)(x:Cm):Prop where
 kind:c.kind=x.kind
 time:c.time=x.time
 a:c.a=x.a
 b:c.b=x.b
 name:c.name=x.name
 v:CF F w c.v x.v
instance:Elt CC Cm where
 rel:=CmF
 keep:=fun h K hs=>⟨h.kind,h.time,h.a,h.b,h.name,h.v.keep K hs⟩
 mono:=fun h hs=>⟨h.kind,h.time,h.a,h.b,h.name,h.v.mono hs⟩
structure EC where
 id:Int
 time:Int
 kind:Int
 a:Int
 b:Int
 name:ByteArray
 text:ByteArray
 v:VC
instance:Cells EC where
 sz:=11
 enc:=fun c=>[.int .i64 c.id,.int .i64 c.time,.int .i64 c.kind,.int .i64 c.a,.int .i64 c.b,.string c.name,.string c.text,.int .i64 c.v.kind,.int .i64 c.v.n,.string c.v.s,.slice c.v.la c.v.ln c.v.lc]
 len:=fun _=>rfl
 one:=by
  intro x v hv;simp at hv;rcases hv with rfl|rfl|rfl|rfl|rfl|rfl|rfl|rfl|rfl|rfl|rfl<;>rfl
structure EvF (F:Nat→Prop)(w:World)(c:EC)(x:Ev):Prop where
 id:c.id=x.id
 time:c.time=x.time
 kind:c.kind=x.kind
 a:c.a=x.a
 b:c.b=x.b
 name:c.name=x.name
 text:c.text=x.text
 v:CF F w c.v x.v
instance:Elt EC Ev where
 rel:=EvF
 keep:=fun h K hs=>⟨h.id,h.time,h.kind,h.a,h.b,h.name,h.text,h.v.keep K hs⟩
 mono:=fun h hs=>⟨h.id,h.time,h.kind,h.a,h.b,h.name,h.text,h.v.mono hs⟩
def XRow {α β:Type}[Cells α][Elt α β](F:Nat→Prop)(w:World)(e:TypeId)(v:Value)(l:List β):Prop:=
 ∃cs:List α,RowAt w e v cs∧cs.length=l.length∧∀(i:Nat) (c:α) (x:β),cs[i]? =some c→l[i]? =some x→Elt.rel F w c x
def XRd {α β:Type}[Cells α][Elt α β](F:Nat→Prop)(w:World)(v:Value)(l:List β):Prop:=
 ∃cs:List α,RdF F w v cs∧cs.length=l.length∧∀(i:Nat) (c:α) (x:β),cs[i]? =some c→l[i]? =some x→Elt.rel F w c x
section
variable{α β:Type} [Cells α] [Elt α β] {F G S:Nat→Prop} {w w':World} {e:TypeId} {v:Value} {l:List β}
theorem XRow.slice (h:XRow F w e v l):∃a cap,v= .slice a l.length cap:=by
 obtain⟨cs,h1,h2,h3⟩:=h;obtain⟨a,cap,h⟩:=h1.slice;exact⟨a,cap,by rw[←h2];exact h⟩
theorem XRow.nil (F:Nat→Prop)(w:World)(e:TypeId):XRow (β:=β) F w e (.slice none 0 0) []:=⟨[],RowAt.nil _ _,rfl,fun i c x h=>by simp at h⟩
theorem XRow.keep (h:XRow F w e v l)(K:Keeps S w w')(hs:∀g,F g→¬S g)(hv:∀g,v.ownBlock=some g→¬S g):XRow F w' e v l:=by
 obtain⟨cs,h1,h2,h3⟩:=h;exact⟨cs,h1.keep K hv,h2,fun i c x hc hx=>Elt.keep (h3 i c x hc hx) K hs⟩
theorem XRow.mono (h:XRow F w e v l)(hs:∀g,F g→g<w.heap.size→G g):XRow G w e v l:=by
 obtain⟨cs,h1,h2,h3⟩:=h;exact⟨cs,h1,h2,fun i c x hc hx=>Elt.mono (h3 i c x hc hx) hs⟩
theorem XRow.below (h:XRow F w e v l)(B:Below w.heap.size w w'):XRow F w' e v l:=h.keep (S:=fun _=>False) (zkb B) (fun _ _ f=>f) (fun _ _ f=>f)
theorem XRow.lt (h:XRow F w e v l){g:Nat}(hg:v.ownBlock=some g):g<w.heap.size:=by
 obtain⟨cs,h1,_⟩:=h;exact h1.lt hg
theorem XRow.rd (h:XRow F w e v l)(hF:∀g,F g→g<w.heap.size→G g)(hG:∀g,v.ownBlock=some g→G g):XRd G w v l:=by
 obtain⟨cs,h1,h2,h3⟩:=h;exact⟨cs,RdF.of_row h1 hG,h2,fun i c x hc hx=>Elt.mono (h3 i c x hc hx) hF⟩
theorem XRow.at_ {a:Option Addr}{n cap:Nat}(h:XRow F w e (.slice a n cap) l){i:Nat}{x:β}(hx:l[i]? =some x):∃g off c,a=some ⟨g,off,none⟩∧g<w.heap.size∧Elt.rel F w c x∧(∀o,w.frozen? ⟨g,o,none⟩=false)∧∀j u,(enc c)[j]? =some u→w.cell? ⟨g,off+i*sz α+j,none⟩=some u:=by
 obtain⟨cs,h1,h2,h3⟩:=h;obtain⟨c,hc⟩:=yad (l:=cs) (k:=i) (by rw[h2];exact(zge hx).1);obtain⟨g,off,rfl,hg⟩:=h1.addr hc;refine⟨g,off,c,rfl,hg,h3 i c x hc hx,fun o=>h1.frozen o,fun j u hu=> ?_⟩;have hj:j<sz α:=by have:=(zge hu).1;rwa[Cells.len]at this
 have q:=h1.cell hc (j:=j) hj;rw[show off+(i*sz α+j)=off+i*sz α+j by omega]at q;rw[q,←hu]
theorem XRd.slice (h:XRd F w v l):∃a cap,v= .slice a l.length cap:=by
 obtain⟨cs,h1,h2,h3⟩:=h;obtain⟨a,cap,h⟩:=h1.slice;exact⟨a,cap,by rw[←h2];exact h⟩
theorem XRd.keep (h:XRd F w v l)(K:Keeps S w w')(hs:∀g,F g→¬S g):XRd F w' v l:=by
 obtain⟨cs,h1,h2,h3⟩:=h;exact⟨cs,h1.keep K hs,h2,fun i c x hc hx=>Elt.keep (h3 i c x hc hx) K hs⟩
theorem XRd.mono (h:XRd F w v l)(hs:∀g,F g→g<w.heap.size→G g):XRd G w v l:=by
 obtain⟨cs,h1,h2,h3⟩:=h;exact⟨cs,h1.mono hs,h2,fun i c x hc hx=>Elt.mono (h3 i c x hc hx) hs⟩
theorem XRd.below (h:XRd F w v l)(B:Below w.heap.size w w'):XRd F w' v l:=h.keep (S:=fun _=>False) (zkb B) (fun _ _ f=>f)
theorem XRd.nil (F:Nat→Prop)(w:World):XRd (β:=β) F w (.slice none 0 0) []:=⟨[],RdF.nil _ _,rfl,fun i c x h=>by simp at h⟩
theorem XRd.at_ {a:Option Addr}{n cap:Nat}(h:XRd F w (.slice a n cap) l){i:Nat}{x:β}(hx:l[i]? =some x):∃g off c,a=some ⟨g,off,none⟩∧F g∧g<w.heap.size∧Elt.rel F w c x∧∀j u,(enc c)[j]? =some u→w.cell? ⟨g,off+i*sz α+j,none⟩=some u:=by
 obtain⟨cs,h1,h2,h3⟩:=h;obtain⟨c,hc⟩:=yad (l:=cs) (k:=i) (by rw[h2];exact(zge hx).1);obtain⟨g,off,ha,hF,hg,q⟩:=h1.at_ hc;exact⟨g,off,c,ha,hF,hg,h3 i c x hc hx,fun j u hu=>by rw[zmm];exact q j u hu⟩
end
structure MV where
 ss:Value
 ic:IC
 ps:Value
 inp:VC
 ts:Value
 as_:Value
 ls:Value
 ms:Value
def own (v:MV)(b:Nat):Nat→Option Nat
 |0=>some b
 |1=>v.ss.ownBlock
 |2=>v.ps.ownBlock
 |3=>v.ts.ownBlock
 |4=>v.as_.ownBlock
 |5=>v.ls.ownBlock
 |6=>v.ms.ownBlock
 |_=>none
def MO (v:MV)(b g:Nat):Prop:=∃i,own v b i=some g
def MZ (Z:Nat→Prop)(v:MV)(b g:Nat):Prop:=¬MO v b g∧Z g
def ybE (v:MV)(s:MS):List Value:=
 [v.ss,.slice v.ic.ca v.ic.cn v.ic.cc,.slice v.ic.ka v.ic.kn v.ic.kc,.slice v.ic.na v.ic.nn v.ic.nc,.int .i64 v.ic.pl,v.ps,.int .i64 (s.at_:Int),.int .i64 v.inp.kind,.int .i64 v.inp.n,.string v.inp.s,.slice v.inp.la v.inp.ln v.inp.lc,.int .i64 s.now,
  v.ts,.int .i64 s.timers.next,v.as_,.int .i64 s.acts.next,v.ls,.bool s.asked,.bool s.begun,.bool s.over,.string s.trap,v.ms,.int .i64 (s.taken:Int),.int .i64 (s.events:Int),.int .i64 (s.steps:Int)]
structure MT where
 m:TypeId
 v:TypeId
 t:TypeId
 l:TypeId
 c:TypeId
structure MX (T:MT)(Z:Nat→Prop)(W:World)(b:Nat)(v:MV)(p:Img)(s:MS):Prop where
 h:W.heap[b]? =some (.cells (ybE v s).toArray T.m (0,0))
 stk:XRow (MZ Z v b) W T.v v.ss s.stk
 pls:XRow (MZ Z v b) W T.v v.ps s.places
 tms:XRow (MZ Z v b) W T.t v.ts s.timers.list
 acs:XRow (MZ Z v b) W T.t v.as_ s.acts.list
 lts:XRow (MZ Z v b) W T.l v.ls s.letters
 mds:XRow (MZ Z v b) W T.c v.ms s.made
 img:IAt (MZ Z v b) W v.ic p
 inp:CF (MZ Z v b) W v.inp s.input
 sep:∀i j g,own v b i=some g→own v b j=some g→i=j
structure MK (b:Nat)(v:MV)(W:World)(v':MV)(W':World):Prop where
 keeps:Keeps (MO v b) W W'
 own:∀j,MO v' b j→MO v b j∨W.heap.size≤j
theorem MK.refl (b:Nat)(v:MV)(W:World):MK b v W v W:=⟨Keeps.refl _ _,fun _ h=>.inl h⟩
theorem MK.trans {b:Nat}{v v' v'':MV}{W W' W'':World}(h:MK b v W v' W')(k:MK b v' W' v'' W''):MK b v W v'' W'':=by
 refine⟨h.keeps.trans k.keeps (fun j hj e=>(h.own j e).resolve_right (by omega)),fun j hj=> ?_⟩;rcases k.own j hj with h1|h1
 ·exact h.own j h1
 ·exact .inr (znf h.keeps.size h1)
theorem MK.ext {b:Nat}{v:MV}{W W':World}(K:Below W.heap.size W W'):MK b v W v W':=⟨(zkb (S:=fun _=>False) K).mono (fun _ _ f=>f.elim),fun _ h=>.inl h⟩
section
variable{T:MT} {Z:Nat→Prop} {W W':World} {b:Nat} {v:MV} {p:Img} {s:MS}
theorem MX.lt (M:MX T Z W b v p s){g:Nat}(h:MO v b g):g<W.heap.size:=by
 obtain⟨i,hi⟩:=h
 match i,hi with
 |0,hi=>cases hi;exact zlt M.h
 |1,hi=>exact M.stk.lt hi
 |2,hi=>exact M.pls.lt hi
 |3,hi=>exact M.tms.lt hi
 |4,hi=>exact M.acs.lt hi
 |5,hi=>exact M.lts.lt hi
 |6,hi=>exact M.mds.lt hi
 |n+7,hi=>cases hi
theorem MX.far {S:Nat→Prop}(M:MX T Z W b v p s)(K:Keeps S W W')(h1:∀j,S j→¬MO v b j)(h2:∀j,S j→¬Z j):MX T Z W' b v p s:=
 have hF:∀g,MZ Z v b g→¬S g:=fun g h s=>h2 g s h.2
 ⟨(K.block b (zlt M.h) (fun s=>h1 b s ⟨0,rfl⟩)).trans M.h,M.stk.keep K hF (fun g hg s=>h1 g s ⟨1,hg⟩),M.pls.keep K hF (fun g hg s=>h1 g s ⟨2,hg⟩),M.tms.keep K hF (fun g hg s=>h1 g s ⟨3,hg⟩),M.acs.keep K hF (fun g hg s=>h1 g s ⟨4,hg⟩),M.lts.keep K hF (fun g hg s=>h1 g s ⟨5,hg⟩),M.mds.keep K hF (fun g hg s=>h1 g s ⟨6,hg⟩),M.img.keep K hF,M.inp.keep K hF,M.sep⟩
theorem MX.ext (M:MX T Z W b v p s)(B:Below W.heap.size W W'):MX T Z W' b v p s:=by
 have K:=zkb (S:=fun _=>False) B;exact M.far K (fun _ f=>f.elim) (fun _ f=>f.elim)
theorem MX.monoZ {Z':Nat→Prop}(M:MX T Z W b v p s)(h:∀j,Z j→j<W.heap.size→Z' j):MX T Z' W b v p s:=
 have hF:∀g,MZ Z v b g→g<W.heap.size→MZ Z' v b g:=fun g hg hl=>⟨hg.1,h g hg.2 hl⟩
 ⟨M.h,M.stk.mono hF,M.pls.mono hF,M.tms.mono hF,M.acs.mono hF,M.lts.mono hF,M.mds.mono hF,M.img.mono hF,M.inp.mono hF,M.sep⟩
theorem MX.cell (M:MX T Z W b v p s){k:Nat}{u:Value}(h:(ybE v s)[k]? =some u):W.cell? ⟨b,k,none⟩=some u:=by
 rw[zch M.h,zmc];exact h
theorem MX.frozen (M:MX T Z W b v p s)(o:Nat):W.frozen? ⟨b,o,none⟩=false:=zfr M.h o
theorem MX.scalar (M:MX T Z W b v p s)(k:Nat)(u:Value)(s':MS)(henc:ybE v s'=(ybE v s).set k u)(e1:s'.stk=s.stk)(e2:s'.places=s.places)(e3:s'.timers.list=s.timers.list)(e4:s'.acts.list=s.acts.list)(e5:s'.letters=s.letters)(e6:s'.made=s.made)(e7:s'.input=s.input):
  MX T Z (W.setCell ⟨b,k,none⟩ u) b v p s'∧MK b v W v (W.setCell ⟨b,k,none⟩ u):=by
 have K:Keeps (fun j=>j=b) W (W.setCell ⟨b,k,none⟩ u):=Keeps.setCell (S:=fun j=>j=b) (p:=⟨b,k,none⟩) (Keeps.refl _ _) (.inl rfl) _;have hF:∀g,MZ Z v b g→¬g=b:=fun g h e=>h.1 ⟨0,by rw[e];rfl⟩;have hO:∀i g,own v b (i+1)=some g→¬g=b:=fun i g h e=>by
  have:=M.sep (i+1) 0 g h (by rw[e];rfl);omega
 refine⟨⟨?_,by rw[e1];exact M.stk.keep K hF (fun g hg=>hO 0 g hg),by rw[e2];exact M.pls.keep K hF (fun g hg=>hO 1 g hg),by rw[e3];exact M.tms.keep K hF (fun g hg=>hO 2 g hg),by rw[e4];exact M.acs.keep K hF (fun g hg=>hO 3 g hg),by rw[e5];exact M.lts.keep K hF (fun g hg=>hO 4 g hg),by rw[e6];exact M.mds.keep K hF (fun g hg=>hO 5 g hg),M.img.keep K hF,by rw[e7];exact M.inp.keep K hF,M.sep⟩,⟨K.mono (fun j _ e=>⟨0,by rw[e];rfl⟩),fun j h=>.inl h⟩⟩;rw[henc];have:=M.h;simp[World.setCell,zni,this]
theorem MO.turned {v':MV}{i0:Nat}(hsame:∀i,i≠i0→own v' b i=own v b i){g:Nat}(h:MO v' b g):MO v b g∨own v' b i0=some g:=by
 obtain⟨i,hi⟩:=h;by_cases e:i=i0
 ·exact .inr (e▸hi)
 ·exact .inl ⟨i,by rw[←hsame i e];exact hi⟩
theorem MZ.turned {v':MV}{i0:Nat}(hsame:∀i,i≠i0→own v' b i=own v b i)(hf:∀g,own v' b i0=some g→own v b i0=some g∨W.heap.size≤g){g:Nat}(h:MZ Z v b g)(hl:g<W.heap.size):MZ Z v' b g:=by
 refine⟨fun e=> ?_,h.2⟩;rcases MO.turned hsame e with e|e
 ·exact h.1 e
 ·rcases hf g e with e|e
  ·exact h.1 ⟨i0,e⟩
  ·omega
theorem XRow.turned {α β:Type}[Cells α][Elt α β]{v':MV}{i0 j0:Nat}{e:TypeId}{r:Value}{l:List β}(hrow:XRow (MZ Z v b) W e r l)(hr:r.ownBlock=own v b j0)(hj:j0≠i0)(h0:j0≠0)(sep:∀i j g,own v b i=some g→own v b j=some g→i=j)
  (hsame:∀i,i≠i0→own v' b i=own v b i)(hf:∀g,own v' b i0=some g→own v b i0=some g∨W.heap.size≤g)(K:Keeps (fun j=>j=b∨own v b i0=some j) W W'):XRow (MZ Z v' b) W' e r l:=
 ((hrow.mono (G:=fun g=>MZ Z v b g∧MZ Z v' b g) (fun g h hl=>⟨h,MZ.turned hsame hf h hl⟩)).keep K (fun g h e=>e.elim (fun e=>h.1.1 ⟨0,by rw[e];rfl⟩) (fun e=>h.1.1 ⟨i0,e⟩)) (fun g hg e=>e.elim (fun e=>h0 (sep j0 0 g (hr▸hg) (by rw[e];rfl))) (fun e=>hj (sep j0 i0 g (hr▸hg) e)))).mono (fun g h _=>h.2)
theorem ybx {v':MV}{i0:Nat}(hlt:∀g,MO v b g→g<W.heap.size)(sep:∀i j g,own v b i=some g→own v b j=some g→i=j)(hsame:∀i,i≠i0→own v' b i=own v b i)(hf:∀g,own v' b i0=some g→own v b i0=some g∨W.heap.size≤g):∀i j g,own v' b i=some g→own v' b j=some g→i=j:=by
 have one:∀i g,i≠i0→own v' b i=some g→own v' b i0=some g→False:=fun i g hi h1 h2=>by
  rw[hsame i hi]at h1;rcases hf g h2 with h|h
  ·exact hi (sep i i0 g h1 h)
  ·have:=hlt g ⟨i,h1⟩;omega
 intro i j g hi hj;by_cases ei:i=i0
 ·by_cases ej:j=i0
  ·rw[ei,ej]
  ·rw[ei]at hi;exact(one j g ej hj hi).elim
 ·by_cases ej:j=i0
  ·rw[ej]at hj;exact(one i g ei hi hj).elim
  ·rw[hsame i ei]at hi;rw[hsame j ej]at hj;exact sep i j g hi hj
theorem MX.setStk (M:MX T Z W b v p s){w1:World}{v1:Value}{l1:List Val}(s':MS)(hr:XRow (fun g=>MZ Z v b g∧¬v1.ownBlock=some g) w1 T.v v1 l1)(K:Keeps (fun j=>v.ss.ownBlock=some j) W w1)(hf:∀g,v1.ownBlock=some g→v.ss.ownBlock=some g∨W.heap.size≤g)(hs':s'={s with stk:=l1}):
  MX T Z (w1.setCell ⟨b,0,none⟩ v1) b {v with ss:=v1} p s'∧MK b v W {v with ss:=v1} (w1.setCell ⟨b,0,none⟩ v1):=by
 subst hs';have hbn:v.ss.ownBlock≠some b:=fun e=>absurd (M.sep 1 0 b e rfl) (by decide);have hb:w1.heap[b]? =some (.cells (ybE v s).toArray T.m (0,0)):=(K.block b (zlt M.h) hbn).trans M.h;have KB:Keeps (fun j=>j=b) w1 (w1.setCell ⟨b,0,none⟩ v1):=Keeps.setCell (S:=fun j=>j=b) (p:=⟨b,0,none⟩) (Keeps.refl _ _) (.inl rfl) _;have K2:Keeps (fun j=>j=b∨own v b 1=some j) W (w1.setCell ⟨b,0,none⟩ v1):=(K.mono (fun _ _ e=>.inr e)).trans KB (fun _ _ e=>.inl e);have hsame:∀i,i≠1→own {v with ss:=v1} b i=own v b i:=fun i hi=>by
  match i with
  |0=>first|rfl|exact absurd rfl hi
  |1=>first|rfl|exact absurd rfl hi
  |2=>first|rfl|exact absurd rfl hi
  |3=>first|rfl|exact absurd rfl hi
  |4=>first|rfl|exact absurd rfl hi
  |5=>first|rfl|exact absurd rfl hi
  |6=>first|rfl|exact absurd rfl hi
  |_+7=>rfl
 have hf':∀g,own {v with ss:=v1} b 1=some g→own v b 1=some g∨W.heap.size≤g:=hf;have hn:∀g,v1.ownBlock=some g→g≠b:=fun g hg e=>by
  rcases hf g hg with h|h
  ·exact hbn (e▸h)
  ·have:=zlt M.h;omega
 have hlt:∀g,MO v b g→g<W.heap.size:=fun g=>M.lt;have hrow:XRow (MZ Z {v with ss:=v1} b) (w1.setCell ⟨b,0,none⟩ v1) T.v v1 l1:=by
  refine(hr.keep KB (fun g h e=>h.1.1 ⟨0,by rw[e];rfl⟩) (fun g hg=>hn g hg)).mono (fun g h _=>⟨fun e=> ?_,h.1.2⟩);exact(MO.turned hsame e).elim h.1.1 h.2
 refine⟨⟨by simp[World.setCell,zni,hb];rfl,?_,?_,?_,?_,?_,?_,?_,?_,ybx hlt M.sep hsame hf'⟩,K2.mono (fun j _ e=>e.elim (fun e=>⟨0,by rw[e];rfl⟩) (fun e=>⟨1,e⟩)),fun j h=>(MO.turned hsame h).elim .inl (fun e=>(hf j e).elim (fun e=>.inl ⟨1,e⟩) .inr)⟩
 ·first|exact hrow|exact M.stk.turned (j0:=1) rfl (by decide) (by decide) M.sep hsame hf' K2
 ·first|exact hrow|exact M.pls.turned (j0:=2) rfl (by decide) (by decide) M.sep hsame hf' K2
 ·first|exact hrow|exact M.tms.turned (j0:=3) rfl (by decide) (by decide) M.sep hsame hf' K2
 ·first|exact hrow|exact M.acs.turned (j0:=4) rfl (by decide) (by decide) M.sep hsame hf' K2
 ·first|exact hrow|exact M.lts.turned (j0:=5) rfl (by decide) (by decide) M.sep hsame hf' K2
 ·first|exact hrow|exact M.mds.turned (j0:=6) rfl (by decide) (by decide) M.sep hsame hf' K2
 ·exact((M.img.mono (G:=fun g=>MZ Z v b g∧MZ Z {v with ss:=v1} b g) (fun g h hl=>⟨h,MZ.turned hsame hf' h hl⟩)).keep K2 (fun g h e=>e.elim (fun e=>h.1.1 ⟨0,by rw[e];rfl⟩) (fun e=>h.1.1 ⟨1,e⟩))).mono (fun g h _=>h.2)
 ·exact((M.inp.mono (G:=fun g=>MZ Z v b g∧MZ Z {v with ss:=v1} b g) (fun g h hl=>⟨h,MZ.turned hsame hf' h hl⟩)).keep K2 (fun g h e=>e.elim (fun e=>h.1.1 ⟨0,by rw[e];rfl⟩) (fun e=>h.1.1 ⟨1,e⟩))).mono (fun g h _=>h.2)
theorem MX.setPls (M:MX T Z W b v p s){w1:World}{v1:Value}{l1:List Val}(s':MS)(hr:XRow (fun g=>MZ Z v b g∧¬v1.ownBlock=some g) w1 T.v v1 l1)(K:Keeps (fun j=>v.ps.ownBlock=some j) W w1)(hf:∀g,v1.ownBlock=some g→v.ps.ownBlock=some g∨W.heap.size≤g)(hs':s'={s with places:=l1}):
  MX T Z (w1.setCell ⟨b,5,none⟩ v1) b {v with ps:=v1} p s'∧MK b v W {v with ps:=v1} (w1.setCell ⟨b,5,none⟩ v1):=by
 subst hs';have hbn:v.ps.ownBlock≠some b:=fun e=>absurd (M.sep 2 0 b e rfl) (by decide);have hb:w1.heap[b]? =some (.cells (ybE v s).toArray T.m (0,0)):=(K.block b (zlt M.h) hbn).trans M.h;have KB:Keeps (fun j=>j=b) w1 (w1.setCell ⟨b,5,none⟩ v1):=Keeps.setCell (S:=fun j=>j=b) (p:=⟨b,5,none⟩) (Keeps.refl _ _) (.inl rfl) _;have K2:Keeps (fun j=>j=b∨own v b 2=some j) W (w1.setCell ⟨b,5,none⟩ v1):=(K.mono (fun _ _ e=>.inr e)).trans KB (fun _ _ e=>.inl e);have hsame:∀i,i≠2→own {v with ps:=v1} b i=own v b i:=fun i hi=>by
  match i with
  |0=>first|rfl|exact absurd rfl hi
  |1=>first|rfl|exact absurd rfl hi
  |2=>first|rfl|exact absurd rfl hi
  |3=>first|rfl|exact absurd rfl hi
  |4=>first|rfl|exact absurd rfl hi
  |5=>first|rfl|exact absurd rfl hi
  |6=>first|rfl|exact absurd rfl hi
  |_+7=>rfl
 have hf':∀g,own {v with ps:=v1} b 2=some g→own v b 2=some g∨W.heap.size≤g:=hf;have hn:∀g,v1.ownBlock=some g→g≠b:=fun g hg e=>by
  rcases hf g hg with h|h
  ·exact hbn (e▸h)
  ·have:=zlt M.h;omega
 have hlt:∀g,MO v b g→g<W.heap.size:=fun g=>M.lt;have hrow:XRow (MZ Z {v with ps:=v1} b) (w1.setCell ⟨b,5,none⟩ v1) T.v v1 l1:=by
  refine(hr.keep KB (fun g h e=>h.1.1 ⟨0,by rw[e];rfl⟩) (fun g hg=>hn g hg)).mono (fun g h _=>⟨fun e=> ?_,h.1.2⟩);exact(MO.turned hsame e).elim h.1.1 h.2
 refine⟨⟨by simp[World.setCell,zni,hb];rfl,?_,?_,?_,?_,?_,?_,?_,?_,ybx hlt M.sep hsame hf'⟩,K2.mono (fun j _ e=>e.elim (fun e=>⟨0,by rw[e];rfl⟩) (fun e=>⟨2,e⟩)),fun j h=>(MO.turned hsame h).elim .inl (fun e=>(hf j e).elim (fun e=>.inl ⟨2,e⟩) .inr)⟩
 ·first|exact hrow|exact M.stk.turned (j0:=1) rfl (by decide) (by decide) M.sep hsame hf' K2
 ·first|exact hrow|exact M.pls.turned (j0:=2) rfl (by decide) (by decide) M.sep hsame hf' K2
 ·first|exact hrow|exact M.tms.turned (j0:=3) rfl (by decide) (by decide) M.sep hsame hf' K2
 ·first|exact hrow|exact M.acs.turned (j0:=4) rfl (by decide) (by decide) M.sep hsame hf' K2
 ·first|exact hrow|exact M.lts.turned (j0:=5) rfl (by decide) (by decide) M.sep hsame hf' K2
 ·first|exact hrow|exact M.mds.turned (j0:=6) rfl (by decide) (by decide) M.sep hsame hf' K2
 ·exact((M.img.mono (G:=fun g=>MZ Z v b g∧MZ Z {v with ps:=v1} b g) (fun g h hl=>⟨h,MZ.turned hsame hf' h hl⟩)).keep K2 (fun g h e=>e.elim (fun e=>h.1.1 ⟨0,by rw[e];rfl⟩) (fun e=>h.1.1 ⟨2,e⟩))).mono (fun g h _=>h.2)
 ·exact((M.inp.mono (G:=fun g=>MZ Z v b g∧MZ Z {v with ps:=v1} b g) (fun g h hl=>⟨h,MZ.turned hsame hf' h hl⟩)).keep K2 (fun g h e=>e.elim (fun e=>h.1.1 ⟨0,by rw[e];rfl⟩) (fun e=>h.1.1 ⟨2,e⟩))).mono (fun g h _=>h.2)
theorem MX.setTms (M:MX T Z W b v p s){w1:World}{v1:Value}{l1:List Th}(s':MS)(hr:XRow (fun g=>MZ Z v b g∧¬v1.ownBlock=some g) w1 T.t v1 l1)(K:Keeps (fun j=>v.ts.ownBlock=some j) W w1)(hf:∀g,v1.ownBlock=some g→v.ts.ownBlock=some g∨W.heap.size≤g)(hs':s'={s with timers:=⟨l1,s.timers.next⟩}):
  MX T Z (w1.setCell ⟨b,12,none⟩ v1) b {v with ts:=v1} p s'∧MK b v W {v with ts:=v1} (w1.setCell ⟨b,12,none⟩ v1):=by
 subst hs';have hbn:v.ts.ownBlock≠some b:=fun e=>absurd (M.sep 3 0 b e rfl) (by decide);have hb:w1.heap[b]? =some (.cells (ybE v s).toArray T.m (0,0)):=(K.block b (zlt M.h) hbn).trans M.h;have KB:Keeps (fun j=>j=b) w1 (w1.setCell ⟨b,12,none⟩ v1):=Keeps.setCell (S:=fun j=>j=b) (p:=⟨b,12,none⟩) (Keeps.refl _ _) (.inl rfl) _;have K2:Keeps (fun j=>j=b∨own v b 3=some j) W (w1.setCell ⟨b,12,none⟩ v1):=(K.mono (fun _ _ e=>.inr e)).trans KB (fun _ _ e=>.inl e);have hsame:∀i,i≠3→own {v with ts:=v1} b i=own v b i:=fun i hi=>by
  match i with
  |0=>first|rfl|exact absurd rfl hi
  |1=>first|rfl|exact absurd rfl hi
  |2=>first|rfl|exact absurd rfl hi
  |3=>first|rfl|exact absurd rfl hi
  |4=>first|rfl|exact absurd rfl hi
  |5=>first|rfl|exact absurd rfl hi
  |6=>first|rfl|exact absurd rfl hi
  |_+7=>rfl
 have hf':∀g,own {v with ts:=v1} b 3=some g→own v b 3=some g∨W.heap.size≤g:=hf;have hn:∀g,v1.ownBlock=some g→g≠b:=fun g hg e=>by
  rcases hf g hg with h|h
  ·exact hbn (e▸h)
  ·have:=zlt M.h;omega
 have hlt:∀g,MO v b g→g<W.heap.size:=fun g=>M.lt;have hrow:XRow (MZ Z {v with ts:=v1} b) (w1.setCell ⟨b,12,none⟩ v1) T.t v1 l1:=by
  refine(hr.keep KB (fun g h e=>h.1.1 ⟨0,by rw[e];rfl⟩) (fun g hg=>hn g hg)).mono (fun g h _=>⟨fun e=> ?_,h.1.2⟩);exact(MO.turned hsame e).elim h.1.1 h.2
 refine⟨⟨by simp[World.setCell,zni,hb];rfl,?_,?_,?_,?_,?_,?_,?_,?_,ybx hlt M.sep hsame hf'⟩,K2.mono (fun j _ e=>e.elim (fun e=>⟨0,by rw[e];rfl⟩) (fun e=>⟨3,e⟩)),fun j h=>(MO.turned hsame h).elim .inl (fun e=>(hf j e).elim (fun e=>.inl ⟨3,e⟩) .inr)⟩
 ·first|exact hrow|exact M.stk.turned (j0:=1) rfl (by decide) (by decide) M.sep hsame hf' K2
 ·first|exact hrow|exact M.pls.turned (j0:=2) rfl (by decide) (by decide) M.sep hsame hf' K2
 ·first|exact hrow|exact M.tms.turned (j0:=3) rfl (by decide) (by decide) M.sep hsame hf' K2
 ·first|exact hrow|exact M.acs.turned (j0:=4) rfl (by decide) (by decide) M.sep hsame hf' K2
 ·first|exact hrow|exact M.lts.turned (j0:=5) rfl (by decide) (by decide) M.sep hsame hf' K2
 ·first|exact hrow|exact M.mds.turned (j0:=6) rfl (by decide) (by decide) M.sep hsame hf' K2
 ·exact((M.img.mono (G:=fun g=>MZ Z v b g∧MZ Z {v with ts:=v1} b g) (fun g h hl=>⟨h,MZ.turned hsame hf' h hl⟩)).keep K2 (fun g h e=>e.elim (fun e=>h.1.1 ⟨0,by rw[e];rfl⟩) (fun e=>h.1.1 ⟨3,e⟩))).mono (fun g h _=>h.2)
 ·exact((M.inp.mono (G:=fun g=>MZ Z v b g∧MZ Z {v with ts:=v1} b g) (fun g h hl=>⟨h,MZ.turned hsame hf' h hl⟩)).keep K2 (fun g h e=>e.elim (fun e=>h.1.1 ⟨0,by rw[e];rfl⟩) (fun e=>h.1.1 ⟨3,e⟩))).mono (fun g h _=>h.2)
theorem MX.setAcs (M:MX T Z W b v p s){w1:World}{v1:Value}{l1:List Th}(s':MS)(hr:XRow (fun g=>MZ Z v b g∧¬v1.ownBlock=some g) w1 T.t v1 l1)(K:Keeps (fun j=>v.as_.ownBlock=some j) W w1)(hf:∀g,v1.ownBlock=some g→v.as_.ownBlock=some g∨W.heap.size≤g)(hs':s'={s with acts:=⟨l1,s.acts.next⟩}):
  MX T Z (w1.setCell ⟨b,14,none⟩ v1) b {v with as_:=v1} p s'∧MK b v W {v with as_:=v1} (w1.setCell ⟨b,14,none⟩ v1):=by
 subst hs';have hbn:v.as_.ownBlock≠some b:=fun e=>absurd (M.sep 4 0 b e rfl) (by decide);have hb:w1.heap[b]? =some (.cells (ybE v s).toArray T.m (0,0)):=(K.block b (zlt M.h) hbn).trans M.h;have KB:Keeps (fun j=>j=b) w1 (w1.setCell ⟨b,14,none⟩ v1):=Keeps.setCell (S:=fun j=>j=b) (p:=⟨b,14,none⟩) (Keeps.refl _ _) (.inl rfl) _;have K2:Keeps (fun j=>j=b∨own v b 4=some j) W (w1.setCell ⟨b,14,none⟩ v1):=(K.mono (fun _ _ e=>.inr e)).trans KB (fun _ _ e=>.inl e);have hsame:∀i,i≠4→own {v with as_:=v1} b i=own v b i:=fun i hi=>by
  match i with
  |0=>first|rfl|exact absurd rfl hi
  |1=>first|rfl|exact absurd rfl hi
  |2=>first|rfl|exact absurd rfl hi
  |3=>first|rfl|exact absurd rfl hi
  |4=>first|rfl|exact absurd rfl hi
  |5=>first|rfl|exact absurd rfl hi
  |6=>first|rfl|exact absurd rfl hi
  |_+7=>rfl
 have hf':∀g,own {v with as_:=v1} b 4=some g→own v b 4=some g∨W.heap.size≤g:=hf;have hn:∀g,v1.ownBlock=some g→g≠b:=fun g hg e=>by
  rcases hf g hg with h|h
  ·exact hbn (e▸h)
  ·have:=zlt M.h;omega
 have hlt:∀g,MO v b g→g<W.heap.size:=fun g=>M.lt;have hrow:XRow (MZ Z {v with as_:=v1} b) (w1.setCell ⟨b,14,none⟩ v1) T.t v1 l1:=by
  refine(hr.keep KB (fun g h e=>h.1.1 ⟨0,by rw[e];rfl⟩) (fun g hg=>hn g hg)).mono (fun g h _=>⟨fun e=> ?_,h.1.2⟩);exact(MO.turned hsame e).elim h.1.1 h.2
 refine⟨⟨by simp[World.setCell,zni,hb];rfl,?_,?_,?_,?_,?_,?_,?_,?_,ybx hlt M.sep hsame hf'⟩,K2.mono (fun j _ e=>e.elim (fun e=>⟨0,by rw[e];rfl⟩) (fun e=>⟨4,e⟩)),fun j h=>(MO.turned hsame h).elim .inl (fun e=>(hf j e).elim (fun e=>.inl ⟨4,e⟩) .inr)⟩
 ·first|exact hrow|exact M.stk.turned (j0:=1) rfl (by decide) (by decide) M.sep hsame hf' K2
 ·first|exact hrow|exact M.pls.turned (j0:=2) rfl (by decide) (by decide) M.sep hsame hf' K2
 ·first|exact hrow|exact M.tms.turned (j0:=3) rfl (by decide) (by decide) M.sep hsame hf' K2
 ·first|exact hrow|exact M.acs.turned (j0:=4) rfl (by decide) (by decide) M.sep hsame hf' K2
 ·first|exact hrow|exact M.lts.turned (j0:=5) rfl (by decide) (by decide) M.sep hsame hf' K2
 ·first|exact hrow|exact M.mds.turned (j0:=6) rfl (by decide) (by decide) M.sep hsame hf' K2
 ·exact((M.img.mono (G:=fun g=>MZ Z v b g∧MZ Z {v with as_:=v1} b g) (fun g h hl=>⟨h,MZ.turned hsame hf' h hl⟩)).keep K2 (fun g h e=>e.elim (fun e=>h.1.1 ⟨0,by rw[e];rfl⟩) (fun e=>h.1.1 ⟨4,e⟩))).mono (fun g h _=>h.2)
 ·exact((M.inp.mono (G:=fun g=>MZ Z v b g∧MZ Z {v with as_:=v1} b g) (fun g h hl=>⟨h,MZ.turned hsame hf' h hl⟩)).keep K2 (fun g h e=>e.elim (fun e=>h.1.1 ⟨0,by rw[e];rfl⟩) (fun e=>h.1.1 ⟨4,e⟩))).mono (fun g h _=>h.2)
theorem MX.setLts (M:MX T Z W b v p s){w1:World}{v1:Value}{l1:List Lt}(s':MS)(hr:XRow (fun g=>MZ Z v b g∧¬v1.ownBlock=some g) w1 T.l v1 l1)(K:Keeps (fun j=>v.ls.ownBlock=some j) W w1)(hf:∀g,v1.ownBlock=some g→v.ls.ownBlock=some g∨W.heap.size≤g)(hs':s'={s with letters:=l1}):
  MX T Z (w1.setCell ⟨b,16,none⟩ v1) b {v with ls:=v1} p s'∧MK b v W {v with ls:=v1} (w1.setCell ⟨b,16,none⟩ v1):=by
 subst hs';have hbn:v.ls.ownBlock≠some b:=fun e=>absurd (M.sep 5 0 b e rfl) (by decide);have hb:w1.heap[b]? =some (.cells (ybE v s).toArray T.m (0,0)):=(K.block b (zlt M.h) hbn).trans M.h;have KB:Keeps (fun j=>j=b) w1 (w1.setCell ⟨b,16,none⟩ v1):=Keeps.setCell (S:=fun j=>j=b) (p:=⟨b,16,none⟩) (Keeps.refl _ _) (.inl rfl) _;have K2:Keeps (fun j=>j=b∨own v b 5=some j) W (w1.setCell ⟨b,16,none⟩ v1):=(K.mono (fun _ _ e=>.inr e)).trans KB (fun _ _ e=>.inl e);have hsame:∀i,i≠5→own {v with ls:=v1} b i=own v b i:=fun i hi=>by
  match i with
  |0=>first|rfl|exact absurd rfl hi
  |1=>first|rfl|exact absurd rfl hi
  |2=>first|rfl|exact absurd rfl hi
  |3=>first|rfl|exact absurd rfl hi
  |4=>first|rfl|exact absurd rfl hi
  |5=>first|rfl|exact absurd rfl hi
  |6=>first|rfl|exact absurd rfl hi
  |_+7=>rfl
 have hf':∀g,own {v with ls:=v1} b 5=some g→own v b 5=some g∨W.heap.size≤g:=hf;have hn:∀g,v1.ownBlock=some g→g≠b:=fun g hg e=>by
  rcases hf g hg with h|h
  ·exact hbn (e▸h)
  ·have:=zlt M.h;omega
 have hlt:∀g,MO v b g→g<W.heap.size:=fun g=>M.lt;have hrow:XRow (MZ Z {v with ls:=v1} b) (w1.setCell ⟨b,16,none⟩ v1) T.l v1 l1:=by
  refine(hr.keep KB (fun g h e=>h.1.1 ⟨0,by rw[e];rfl⟩) (fun g hg=>hn g hg)).mono (fun g h _=>⟨fun e=> ?_,h.1.2⟩);exact(MO.turned hsame e).elim h.1.1 h.2
 refine⟨⟨by simp[World.setCell,zni,hb];rfl,?_,?_,?_,?_,?_,?_,?_,?_,ybx hlt M.sep hsame hf'⟩,K2.mono (fun j _ e=>e.elim (fun e=>⟨0,by rw[e];rfl⟩) (fun e=>⟨5,e⟩)),fun j h=>(MO.turned hsame h).elim .inl (fun e=>(hf j e).elim (fun e=>.inl ⟨5,e⟩) .inr)⟩
 ·first|exact hrow|exact M.stk.turned (j0:=1) rfl (by decide) (by decide) M.sep hsame hf' K2
 ·first|exact hrow|exact M.pls.turned (j0:=2) rfl (by decide) (by decide) M.sep hsame hf' K2
 ·first|exact hrow|exact M.tms.turned (j0:=3) rfl (by decide) (by decide) M.sep hsame hf' K2
 ·first|exact hrow|exact M.acs.turned (j0:=4) rfl (by decide) (by decide) M.sep hsame hf' K2
 ·first|exact hrow|exact M.lts.turned (j0:=5) rfl (by decide) (by decide) M.sep hsame hf' K2
 ·first|exact hrow|exact M.mds.turned (j0:=6) rfl (by decide) (by decide) M.sep hsame hf' K2
 ·exact((M.img.mono (G:=fun g=>MZ Z v b g∧MZ Z {v with ls:=v1} b g) (fun g h hl=>⟨h,MZ.turned hsame hf' h hl⟩)).keep K2 (fun g h e=>e.elim (fun e=>h.1.1 ⟨0,by rw[e];rfl⟩) (fun e=>h.1.1 ⟨5,e⟩))).mono (fun g h _=>h.2)
 ·exact((M.inp.mono (G:=fun g=>MZ Z v b g∧MZ Z {v with ls:=v1} b g) (fun g h hl=>⟨h,MZ.turned hsame hf' h hl⟩)).keep K2 (fun g h e=>e.elim (fun e=>h.1.1 ⟨0,by rw[e];rfl⟩) (fun e=>h.1.1 ⟨5,e⟩))).mono (fun g h _=>h.2)
theorem MX.setMds (M:MX T Z W b v p s){w1:World}{v1:Value}{l1:List Cm}(s':MS)(hr:XRow (fun g=>MZ Z v b g∧¬v1.ownBlock=some g) w1 T.c v1 l1)(K:Keeps (fun j=>v.ms.ownBlock=some j) W w1)(hf:∀g,v1.ownBlock=some g→v.ms.ownBlock=some g∨W.heap.size≤g)(hs':s'={s with made:=l1}):
  MX T Z (w1.setCell ⟨b,21,none⟩ v1) b {v with ms:=v1} p s'∧MK b v W {v with ms:=v1} (w1.setCell ⟨b,21,none⟩ v1):=by
 subst hs';have hbn:v.ms.ownBlock≠some b:=fun e=>absurd (M.sep 6 0 b e rfl) (by decide);have hb:w1.heap[b]? =some (.cells (ybE v s).toArray T.m (0,0)):=(K.block b (zlt M.h) hbn).trans M.h;have KB:Keeps (fun j=>j=b) w1 (w1.setCell ⟨b,21,none⟩ v1):=Keeps.setCell (S:=fun j=>j=b) (p:=⟨b,21,none⟩) (Keeps.refl _ _) (.inl rfl) _;have K2:Keeps (fun j=>j=b∨own v b 6=some j) W (w1.setCell ⟨b,21,none⟩ v1):=(K.mono (fun _ _ e=>.inr e)).trans KB (fun _ _ e=>.inl e);have hsame:∀i,i≠6→own {v with ms:=v1} b i=own v b i:=fun i hi=>by
  match i with
  |0=>first|rfl|exact absurd rfl hi
  |1=>first|rfl|exact absurd rfl hi
  |2=>first|rfl|exact absurd rfl hi
  |3=>first|rfl|exact absurd rfl hi
  |4=>first|rfl|exact absurd rfl hi
  |5=>first|rfl|exact absurd rfl hi
  |6=>first|rfl|exact absurd rfl hi
  |_+7=>rfl
 have hf':∀g,own {v with ms:=v1} b 6=some g→own v b 6=some g∨W.heap.size≤g:=hf;have hn:∀g,v1.ownBlock=some g→g≠b:=fun g hg e=>by
  rcases hf g hg with h|h
  ·exact hbn (e▸h)
  ·have:=zlt M.h;omega
 have hlt:∀g,MO v b g→g<W.heap.size:=fun g=>M.lt;have hrow:XRow (MZ Z {v with ms:=v1} b) (w1.setCell ⟨b,21,none⟩ v1) T.c v1 l1:=by
  refine(hr.keep KB (fun g h e=>h.1.1 ⟨0,by rw[e];rfl⟩) (fun g hg=>hn g hg)).mono (fun g h _=>⟨fun e=> ?_,h.1.2⟩);exact(MO.turned hsame e).elim h.1.1 h.2
 refine⟨⟨by simp[World.setCell,zni,hb];rfl,?_,?_,?_,?_,?_,?_,?_,?_,ybx hlt M.sep hsame hf'⟩,K2.mono (fun j _ e=>e.elim (fun e=>⟨0,by rw[e];rfl⟩) (fun e=>⟨6,e⟩)),fun j h=>(MO.turned hsame h).elim .inl (fun e=>(hf j e).elim (fun e=>.inl ⟨6,e⟩) .inr)⟩
 ·first|exact hrow|exact M.stk.turned (j0:=1) rfl (by decide) (by decide) M.sep hsame hf' K2
 ·first|exact hrow|exact M.pls.turned (j0:=2) rfl (by decide) (by decide) M.sep hsame hf' K2
 ·first|exact hrow|exact M.tms.turned (j0:=3) rfl (by decide) (by decide) M.sep hsame hf' K2
 ·first|exact hrow|exact M.acs.turned (j0:=4) rfl (by decide) (by decide) M.sep hsame hf' K2
 ·first|exact hrow|exact M.lts.turned (j0:=5) rfl (by decide) (by decide) M.sep hsame hf' K2
 ·first|exact hrow|exact M.mds.turned (j0:=6) rfl (by decide) (by decide) M.sep hsame hf' K2
 ·exact((M.img.mono (G:=fun g=>MZ Z v b g∧MZ Z {v with ms:=v1} b g) (fun g h hl=>⟨h,MZ.turned hsame hf' h hl⟩)).keep K2 (fun g h e=>e.elim (fun e=>h.1.1 ⟨0,by rw[e];rfl⟩) (fun e=>h.1.1 ⟨6,e⟩))).mono (fun g h _=>h.2)
 ·exact((M.inp.mono (G:=fun g=>MZ Z v b g∧MZ Z {v with ms:=v1} b g) (fun g h hl=>⟨h,MZ.turned hsame hf' h hl⟩)).keep K2 (fun g h e=>e.elim (fun e=>h.1.1 ⟨0,by rw[e];rfl⟩) (fun e=>h.1.1 ⟨6,e⟩))).mono (fun g h _=>h.2)
end
theorem yeX {P:Program}{t e:TypeId}{i:TypeInfo}(ht:P.underlying t=some (.slice e))(hi:P.info? e=some i){ad:Option Addr}{k n cap:Nat}(hn:n≤cap)(W:World):
  (Instr.slice t (.slice ad k cap) none (some (.int .i64 n)) (some (.int .i64 n))).run P W= .ok (.slice ad n n) W:=by
 have ha:ad.map (fun a=>a.add 0)=ad:=by cases ad<;>simp[Addr.add]
 simp[Instr.slice,run_underlying ht,Instr.sliceBounds,Instr.sliceBound,asIntOf,hn,sizeOf,typeInfo,hi,Result.andThen,ha]
theorem RowAt.pre3 {α:Type}[Cells α]{w:World}{e:TypeId}{xs:List α}{ad:Option Addr}{k cap:Nat}(h:RowAt w e (.slice ad k cap) xs){n:Nat}(hn:n≤xs.length):
  n≤cap∧RowAt w e (.slice ad n n) (xs.take n):=by
 rcases h with⟨h,rfl⟩|⟨g',off',cap',cur,hv,hg,h1,h2,h3,hc⟩
 ·cases h
  simp at hn;subst hn;exact⟨znc _,.inl ⟨rfl,rfl⟩⟩
 ·cases hv
  have hl:(xs.take n).length=n:=by simp;omega
  refine⟨by omega,.inr ⟨g',off',n,cur,by rw[hl],hg,by omega,by omega,?_,fun j u hu=>hc j u ?_⟩⟩
  ·have:n*sz α≤cap*sz α:=Nat.mul_le_mul_right _ (by omega)
   omega
  ·rw[←List.take_append_drop n xs,List.flatMap_append]
   exact(List.getElem?_append_left (zge hu).1).trans hu
theorem yj6 {α:Type}[Cells α]{P:Program}{t e:TypeId}{bytes:Nat}(E:ElemOf α P t e bytes){w:World}{ad:Option Addr}{n cap:Nat}{xs:List α}(h:RowAt w e (.slice ad n cap) xs){k:Nat}(hk:k≤xs.length):
  (∀W:World,(Instr.slice t (.slice ad n cap) none (some (.int .i64 k)) (some (.int .i64 k))).run P W= .ok (.slice ad k k) W)∧RowAt w e (.slice ad k k) (xs.take k):=by
 obtain⟨i,z,hi,h1,h2,h3,h4⟩:=E.hi;obtain⟨a,b⟩:=RowAt.pre3 h hk;exact⟨fun W=>yeX E.ht hi a W,b⟩
def Ptw {α β:Type}[Cells α][Elt α β](F:Nat→Prop)(w:World)(cs:List α)(l:List β):Prop:=
 cs.length=l.length∧∀(i:Nat) (c:α) (x:β),cs[i]? =some c→l[i]? =some x→Elt.rel F w c x
section
variable{α β:Type} [Cells α] [Elt α β] {F G S:Nat→Prop} {w w':World} {e:TypeId} {v:Value} {l m:List β} {cs ds:List α}
theorem XRow.cells (h:XRow F w e v l):∃cs:List α,RowAt w e v cs∧Ptw F w cs l:=by
 obtain⟨cs,h1,h2,h3⟩:=h;exact⟨cs,h1,h2,h3⟩
theorem XRow.of (h:RowAt w e v cs)(p:Ptw F w cs l):XRow F w e v l:=⟨cs,h,p.1,p.2⟩
theorem Ptw.nil:Ptw (α:=α) F w [] ([]:List β):=⟨rfl,fun i c x h=>by simp at h⟩
theorem Ptw.one {c:α}{x:β}(h:Elt.rel F w c x):Ptw F w [c] [x]:=⟨rfl,fun i c' x' hc hx=>by
 match i with
 |0=>simp at hc hx;subst hc hx;exact h
 |i+1=>simp at hc⟩
theorem Ptw.app (h:Ptw F w cs l)(k:Ptw F w ds m):Ptw F w (cs++ds) (l++m):=by
 refine⟨by rw[znk,znk,h.1,k.1],fun i c x hc hx=> ?_⟩;by_cases hi:i<cs.length
 ·rw[List.getElem?_append_left hi]at hc
  rw[List.getElem?_append_left (by rw[←h.1];exact hi)]at hx;exact h.2 i c x hc hx
 ·rw[List.getElem?_append_right (by omega)]at hc
  rw[List.getElem?_append_right (by rw[←h.1];omega),←h.1]at hx;exact k.2 _ c x hc hx
theorem Ptw.take (h:Ptw F w cs l)(n:Nat):Ptw F w (cs.take n) (l.take n):=by
 refine⟨by simp[h.1],fun i c x hc hx=> ?_⟩;rw[List.getElem?_take]at hc hx;by_cases hi:i<n
 ·rw[if_pos hi]at hc hx
  exact h.2 i c x hc hx
 ·rw[if_neg hi]at hc
  cases hc
theorem Ptw.drop (h:Ptw F w cs l)(n:Nat):Ptw F w (cs.drop n) (l.drop n):=by
 refine⟨by simp[h.1],fun i c x hc hx=> ?_⟩;rw[List.getElem?_drop]at hc hx;exact h.2 _ c x hc hx
theorem Ptw.erase (h:Ptw F w cs l)(i:Nat):Ptw F w (cs.take i++cs.drop (i+1)) (l.eraseIdx i):=by
 rw[List.eraseIdx_eq_take_drop_succ];exact(h.take i).app (h.drop (i+1))
theorem Ptw.pop (h:Ptw F w cs l):Ptw F w (cs.take (cs.length - 1)) l.dropLast:=by
 rw[List.dropLast_eq_take,←h.1];exact h.take _
theorem Ptw.set (h:Ptw F w cs l)(i:Nat){c:α}{x:β}(hr:Elt.rel F w c x):Ptw F w (cs.set i c) (l.set i x):=by
 refine⟨by simp[h.1],fun j c' x' hc hx=> ?_⟩;rw[List.getElem?_set]at hc hx;by_cases hj:i=j
 ·rw[if_pos hj]at hc hx
  split at hc
  ·split at hx
   ·cases hc;cases hx;exact hr
   ·cases hx
  ·cases hc
 ·rw[if_neg hj]at hc hx
  exact h.2 j c' x' hc hx
theorem Ptw.keep (h:Ptw F w cs l)(K:Keeps S w w')(hs:∀g,F g→¬S g):Ptw F w' cs l:=⟨h.1,fun i c x hc hx=>Elt.keep (h.2 i c x hc hx) K hs⟩
theorem Ptw.mono (h:Ptw F w cs l)(hs:∀g,F g→g<w.heap.size→G g):Ptw G w cs l:=⟨h.1,fun i c x hc hx=>Elt.mono (h.2 i c x hc hx) hs⟩
theorem Ptw.get (h:Ptw F w cs l){i:Nat}{x:β}(hx:l[i]? =some x):∃c,cs[i]? =some c∧Elt.rel F w c x:=by
 obtain⟨c,hc⟩:=yad (l:=cs) (k:=i) (by rw[h.1];exact(zge hx).1);exact⟨c,hc,h.2 i c x hc hx⟩
end
section
variable{T:MT} {Z:Nat→Prop} {W w1:World} {b:Nat} {v:MV} {p:Img} {s:MS} {v1:Value}
theorem MX.putStk (M:MX T Z W b v p s){cs:List VC}{l1:List Val}(s':MS)(hr:RowAt w1 T.v v1 cs)(hp:Ptw (MZ Z v b) W cs l1)(K:Keeps (fun j=>v.ss.ownBlock=some j) W w1)(hf:∀g,v1.ownBlock=some g→v.ss.ownBlock=some g∨W.heap.size≤g)(hs':s'={s with stk:=l1}):
  MX T Z (w1.setCell ⟨b,0,none⟩ v1) b {v with ss:=v1} p s'∧MK b v W {v with ss:=v1} (w1.setCell ⟨b,0,none⟩ v1):=by
 refine M.setStk s' (XRow.of hr ?_) K hf hs';refine((hp.mono (G:=fun g=>MZ Z v b g∧¬v1.ownBlock=some g) (fun g hg hl=>⟨hg,fun e=> ?_⟩)).keep K (fun g hg e=>hg.1.1 ⟨1,e⟩));rcases hf g e with h|h
 ·exact hg.1 ⟨1,h⟩
 ·omega
theorem MX.putPls (M:MX T Z W b v p s){cs:List VC}{l1:List Val}(s':MS)(hr:RowAt w1 T.v v1 cs)(hp:Ptw (MZ Z v b) W cs l1)(K:Keeps (fun j=>v.ps.ownBlock=some j) W w1)(hf:∀g,v1.ownBlock=some g→v.ps.ownBlock=some g∨W.heap.size≤g)(hs':s'={s with places:=l1}):
  MX T Z (w1.setCell ⟨b,5,none⟩ v1) b {v with ps:=v1} p s'∧MK b v W {v with ps:=v1} (w1.setCell ⟨b,5,none⟩ v1):=by
 refine M.setPls s' (XRow.of hr ?_) K hf hs';refine((hp.mono (G:=fun g=>MZ Z v b g∧¬v1.ownBlock=some g) (fun g hg hl=>⟨hg,fun e=> ?_⟩)).keep K (fun g hg e=>hg.1.1 ⟨2,e⟩));rcases hf g e with h|h
 ·exact hg.1 ⟨2,h⟩
 ·omega
theorem MX.putTms (M:MX T Z W b v p s){cs:List TC}{l1:List Th}(s':MS)(hr:RowAt w1 T.t v1 cs)(hp:Ptw (MZ Z v b) W cs l1)(K:Keeps (fun j=>v.ts.ownBlock=some j) W w1)(hf:∀g,v1.ownBlock=some g→v.ts.ownBlock=some g∨W.heap.size≤g)(hs':s'={s with timers:=⟨l1,s.timers.next⟩}):
  MX T Z (w1.setCell ⟨b,12,none⟩ v1) b {v with ts:=v1} p s'∧MK b v W {v with ts:=v1} (w1.setCell ⟨b,12,none⟩ v1):=by
 refine M.setTms s' (XRow.of hr ?_) K hf hs';refine((hp.mono (G:=fun g=>MZ Z v b g∧¬v1.ownBlock=some g) (fun g hg hl=>⟨hg,fun e=> ?_⟩)).keep K (fun g hg e=>hg.1.1 ⟨3,e⟩));rcases hf g e with h|h
 ·exact hg.1 ⟨3,h⟩
 ·omega
theorem MX.putAcs (M:MX T Z W b v p s){cs:List TC}{l1:List Th}(s':MS)(hr:RowAt w1 T.t v1 cs)(hp:Ptw (MZ Z v b) W cs l1)(K:Keeps (fun j=>v.as_.ownBlock=some j) W w1)(hf:∀g,v1.ownBlock=some g→v.as_.ownBlock=some g∨W.heap.size≤g)(hs':s'={s with acts:=⟨l1,s.acts.next⟩}):
  MX T Z (w1.setCell ⟨b,14,none⟩ v1) b {v with as_:=v1} p s'∧MK b v W {v with as_:=v1} (w1.setCell ⟨b,14,none⟩ v1):=by
 refine M.setAcs s' (XRow.of hr ?_) K hf hs';refine((hp.mono (G:=fun g=>MZ Z v b g∧¬v1.ownBlock=some g) (fun g hg hl=>⟨hg,fun e=> ?_⟩)).keep K (fun g hg e=>hg.1.1 ⟨4,e⟩));rcases hf g e with h|h
 ·exact hg.1 ⟨4,h⟩
 ·omega
theorem MX.putLts (M:MX T Z W b v p s){cs:List LC}{l1:List Lt}(s':MS)(hr:RowAt w1 T.l v1 cs)(hp:Ptw (MZ Z v b) W cs l1)(K:Keeps (fun j=>v.ls.ownBlock=some j) W w1)(hf:∀g,v1.ownBlock=some g→v.ls.ownBlock=some g∨W.heap.size≤g)(hs':s'={s with letters:=l1}):
  MX T Z (w1.setCell ⟨b,16,none⟩ v1) b {v with ls:=v1} p s'∧MK b v W {v with ls:=v1} (w1.setCell ⟨b,16,none⟩ v1):=by
 refine M.setLts s' (XRow.of hr ?_) K hf hs';refine((hp.mono (G:=fun g=>MZ Z v b g∧¬v1.ownBlock=some g) (fun g hg hl=>⟨hg,fun e=> ?_⟩)).keep K (fun g hg e=>hg.1.1 ⟨5,e⟩));rcases hf g e with h|h
 ·exact hg.1 ⟨5,h⟩
 ·omega
theorem MX.putMds (M:MX T Z W b v p s){cs:List CC}{l1:List Cm}(s':MS)(hr:RowAt w1 T.c v1 cs)(hp:Ptw (MZ Z v b) W cs l1)(K:Keeps (fun j=>v.ms.ownBlock=some j) W w1)(hf:∀g,v1.ownBlock=some g→v.ms.ownBlock=some g∨W.heap.size≤g)(hs':s'={s with made:=l1}):
  MX T Z (w1.setCell ⟨b,21,none⟩ v1) b {v with ms:=v1} p s'∧MK b v W {v with ms:=v1} (w1.setCell ⟨b,21,none⟩ v1):=by
 refine M.setMds s' (XRow.of hr ?_) K hf hs';refine((hp.mono (G:=fun g=>MZ Z v b g∧¬v1.ownBlock=some g) (fun g hg hl=>⟨hg,fun e=> ?_⟩)).keep K (fun g hg e=>hg.1.1 ⟨6,e⟩));rcases hf g e with h|h
 ·exact hg.1 ⟨6,h⟩
 ·omega
theorem MZ.step {v':MV}{w':World}(K:MK b v W v' w'){g:Nat}(h:MZ Z v b g)(hl:g<W.heap.size):MZ Z v' b g:=⟨fun e=>(K.own g e).elim h.1 (fun q=>by omega),h.2⟩
theorem CF.step {v':MV}{w':World}{c:VC}{x:Val}(K:MK b v W v' w')(h:CF (MZ Z v b) W c x):CF (MZ Z v' b) w' c x:=
 ((h.mono (G:=fun g=>MZ Z v b g∧MZ Z v' b g) (fun _ hg hl=>⟨hg,MZ.step K hg hl⟩)).keep K.keeps (fun _ hg e=>hg.1.1 e)).mono (fun _ hg _=>hg.2)
theorem MX.cut (M:MX T Z W b v p s):MX T (fun j=>Z j∧j<W.heap.size) W b v p s:=M.monoZ (fun _ h l=>⟨h,l⟩)
theorem MX.late {N:Nat}{W':World}(M:MX T (fun j=>Z j∧j<N) W b v p s)(hN:∀j,MO v b j→j<N)(K:Keeps (fun j=>N≤j) W W'):MX T Z W' b v p s:=
 ((M.far K (fun j _ e=>by have:=hN j e;omega) (fun _ h e=>by have:=e.2;omega))).monoZ (fun _ h _=>h.1)
theorem MK.late {v':MV}{w1 w2:World}(K:MK b v W v' w1)(L:Keeps (fun j=>W.heap.size≤j) w1 w2):MK b v W v' w2:=
 ⟨K.keeps.trans L (fun j hj e=>by omega),K.own⟩
theorem yco (F:Nat→Prop)(w:World)(n:Int):CF F w ⟨1,n,⟨#[]⟩,none,0,0⟩ (ybn n):=⟨rfl,rfl,rfl,VF.nil _ _⟩
theorem ya5 (F:Nat→Prop)(w:World)(x:Bool):CF F w ⟨1,bif x then 1 else 0,⟨#[]⟩,none,0,0⟩ (yaH x):=⟨rfl,rfl,rfl,VF.nil _ _⟩
theorem yke (F:Nat→Prop)(w:World)(t:ByteArray):CF F w ⟨2,0,t,none,0,0⟩ (ybH t):=⟨rfl,rfl,rfl,VF.nil _ _⟩
theorem yaD (F:Nat→Prop)(w:World):CF F w ⟨0,0,⟨#[]⟩,none,0,0⟩ yai:=⟨rfl,rfl,rfl,VF.nil _ _⟩
theorem yac {w':World}(hZ:∀j,W.heap.size≤j→Z j)(h:W.heap.size≤w'.heap.size):∀j,w'.heap.size≤j→Z j:=fun j hj=>hZ j (znf h hj)
end
end Go.Va
