/- Parts of the proof: what the functions and the plain laws give that later parts lean on. Conditions: none beyond those that each theorem names. -/
import Derived.Deep.Slices
import Derived.Deep.Fields
import Derived.ChangeSame
import Derived.OpenShut
import Derived.Test.YtakljipkaoahnaaGreatDoorB23
set_option maxRecDepth 100000
set_option maxHeartbeats 8000000
namespace Go.Proofs.YtakljipkaoahnaaGreatDoor
open Go.RowKit Go.Own Go.Own.MapTy Go.Va Go.Sort
open Go.Own.Cells (sz enc)
theorem BoxI.c0 {w:World}{b:Nat}{i:IC}(h:BoxI w b i):w.cell? ⟨b,0,none⟩=some (.slice i.ca i.cn i.cc):=by rw[zch h];rfl
theorem BoxI.c1 {w:World}{b:Nat}{i:IC}(h:BoxI w b i):w.cell? ⟨b,1,none⟩=some (.slice i.ka i.kn i.kc):=by rw[zch h];rfl
theorem BoxI.c2 {w:World}{b:Nat}{i:IC}(h:BoxI w b i):w.cell? ⟨b,2,none⟩=some (.slice i.na i.nn i.nc):=by rw[zch h];rfl
theorem BoxI.c3 {w:World}{b:Nat}{i:IC}(h:BoxI w b i):w.cell? ⟨b,3,none⟩=some (.int .i64 i.pl):=by rw[zch h];rfl
theorem BoxI.lt {w:World}{b:Nat}{i:IC}(h:BoxI w b i):b<w.heap.size:=zlt h
theorem BoxI.below {w w':World}{b:Nat}{i:IC}(h:BoxI w b i)(B:Below w.heap.size w w'):BoxI w' b i:=(B.block b h.lt).trans h
end Go.Proofs.YtakljipkaoahnaaGreatDoor
namespace Go.Va
open Go.Own Go.RowKit
open Cells (sz enc)
section
variable{α β:Type} [Cells α] [Elt α β] {F G S:Nat→Prop} {w w':World} {e:TypeId} {v:Value} {l:List β}
theorem XRd.slice (h:XRd F w v l):∃a cap,v= .slice a l.length cap:=by
 obtain⟨cs,h1,h2,h3⟩:=h
 obtain⟨a,cap,h⟩:=h1.slice
 exact⟨a,cap,by rw[←h2];exact h⟩
theorem XRd.keep (h:XRd F w v l)(K:Keeps S w w')(hs:∀g,F g→¬S g):XRd F w' v l:=by
 obtain⟨cs,h1,h2,h3⟩:=h
 exact⟨cs,h1.keep K hs,h2,fun i c x hc hx=>Elt.keep (h3 i c x hc hx) K hs⟩
theorem XRd.below (h:XRd F w v l)(B:Below w.heap.size w w'):XRd F w' v l:=h.keep (S:=fun _=>False) (zkb B) (fun _ _ f=>f)
theorem XRd.at_ {a:Option Addr}{n cap:Nat}(h:XRd F w (.slice a n cap) l){i:Nat}{x:β}(hx:l[i]? =some x):∃g off c,a=some ⟨g,off,none⟩∧F g∧g<w.heap.size∧Elt.rel F w c x∧∀j u,(enc c)[j]? =some u→w.cell? ⟨g,off+i*sz α+j,none⟩=some u:=by
 obtain⟨cs,h1,h2,h3⟩:=h
 obtain⟨c,hc⟩:=elem_at (l:=cs) (k:=i) (by rw[h2];exact(zge hx).1)
 obtain⟨g,off,ha,hF,hg,q⟩:=h1.at_ hc
 exact⟨g,off,c,ha,hF,hg,h3 i c x hc hx,fun j u hu=>by rw[Nat.add_assoc];exact q j u hu⟩
end
end Go.Va
namespace Go.Va
open Go.Own Go.RowKit
theorem fitV_eq (d:Int)(x:Val)(left:Int):fitV d x left=bif decide (left - 1<0)||(decide (12<d)||decide (1100<x.txt.size))then(false,left - 1)else fitV.fitL (d+1) x.list (left - 1):=by
 cases x
 rw[fitV]
 rfl
theorem fitL_cons (d:Int)(x:Val)(r:List Val)(left:Int):fitV.fitL d (x::r) left=bif (fitV d x left).1 then fitV.fitL d r (fitV d x left).2 else(false,(fitV d x left).2):=by rw[fitV.fitL]
theorem fitL_nil (d:Int)(left:Int):fitV.fitL d [] left=(true,left):=by rw[fitV.fitL]
mutual
theorem fitV_bd:∀(x:Val) (d left:Int),left≤400→(fitV d x left).2≤400∧((fitV d x left).1=true→0≤(fitV d x left).2)
 | .mk k n s l,d,left,h=>by
   rw[fitV]
   by_cases h1:left - 1<0
   ·rw[decide_eq_true h1]
    simp
    omega
   ·rw[decide_eq_false h1]
    cases(decide (12<d)||decide (1100<s.size))
    ·simp only[Bool.false_or,cond_false]
     exact fitL_bd l (d+1) (left - 1) (by omega) (by omega)
    ·simp
     omega
theorem fitL_bd:∀(l:List Val) (d left:Int),left≤400→0≤left→(fitV.fitL d l left).2≤400∧((fitV.fitL d l left).1=true→0≤(fitV.fitL d l left).2)
 |[],d,left,h,h0=>by rw[fitL_nil];exact⟨h,fun _=>h0⟩
 |x::r,d,left,h,h0=>by
  rw[fitL_cons]
  have h1:=fitV_bd x d left h
  cases hf:(fitV d x left).1 with
  |false=>exact⟨h1.1,fun e=>by cases e⟩
  |true=>exact fitL_bd r d _ h1.1 (h1.2 hf)
end
theorem Val.allL_iff {P:Int→Int→ByteArray→Prop}:∀{l:List Val},Val.all.allL P l↔∀x∈l,x.all P
 |[]=>by rw[Val.all.allL];simp
 |y::r=>by rw[Val.all.allL,Val.allL_iff];simp
mutual
theorem fitV_txt:∀(x:Val) (d left:Int),(fitV d x left).1=true→x.all (fun _ _ s=>s.size≤1100)
 | .mk k n s l,d,left,h=>by
   rw[fitV]at h
   rw[Val.all]
   cases hc:(decide (left - 1<0)||(decide (12<d)||decide (1100<s.size)))with
   |true=>rw[hc]at h;cases h
   |false=>
    rw[hc]at h
    simp only[cond_false]at h
    simp only[Bool.or_eq_false_iff,decide_eq_false_iff_not]at hc
    exact⟨by omega,fitL_txt l (d+1) _ h⟩
theorem fitL_txt:∀(l:List Val) (d left:Int),(fitV.fitL d l left).1=true→Val.all.allL (fun _ _ s=>s.size≤1100) l
 |[],_,_,_=>by rw[Val.all.allL];trivial
 |x::r,d,left,h=>by
  rw[fitL_cons]at h
  rw[Val.all.allL]
  cases hf:(fitV d x left).1 with
  |false=>rw[hf]at h;cases h
  |true=>
   rw[hf]at h
   exact⟨fitV_txt x d left hf,fitL_txt r d _ h⟩
end
end Go.Va
namespace Go.Proofs.YtakljipkaoahnaaGreatDoor
open Go.RowKit Go.Own Go.Own.MapTy Go.Va Go.Sort
open Go.Own.Cells (sz enc)
theorem LX.c {w:World}{b:Nat}{n:Int}(h:LX w b n):w.cell? ⟨b,0,none⟩=some (.int .i64 n):=by rw[zch h];rfl
theorem LX.keep {w w':World}{b:Nat}{n:Int}{S:Nat→Prop}(h:LX w b n)(K:Keeps S w w')(hs:¬S b):LX w' b n:=(K.block b (zlt h) hs).trans h
theorem LX.set {w:World}{b:Nat}{n:Int}(h:LX w b n)(m:Int):LX (w.setCell ⟨b,0,none⟩ (.int .i64 m)) b m:=by
 unfold LX at h⊢
 simp[World.setCell,Array.getElem?_modify,h]
end Go.Proofs.YtakljipkaoahnaaGreatDoor
namespace Go.Proofs.YtakljipkaoahnaaGreatDoor
open Go.ChangeShapes Go.WideShapes Go.Deep Go.RowKit Go.Own Go.Va
open Go.Own.Cells (sz enc)
section
variable{H:Type} {tok:TypeId×Value→H} {P:Program} {w:World} {base:Nat} {spare:Nat→Bool} {held:Bool}
theorem lit64 {n:Int}(h:(Lit.int .i64 n).wf=true): -9223372036854775808≤n∧n≤9223372036854775807:=by
 have:IntKind.i64.min≤n∧n≤9223372036854775807:=by simpa[Lit.wf,IntKind.bits,IntKind.signed]using h
 exact this
theorem open_rd {α:Type}[Cells α]{tS tE:TypeId}(ht:P.underlying tS=some (.slice tE))(hc:P.cellsOf tE=sz α)(h0:0<sz α){Q:α→Prop}{fuel:Nat}{cs:List Value}{x:DataW H×List MemPlace}(dflt:α)
  (hel:∀m,m<fuel→∀cs x,cs.length=sz α→DataW.trod tok P w base spare held m tE cs=some x→∃y:α,cs=enc y∧Q y)
  (h:DataW.trod tok P w base spare held fuel tS cs=some x):∃a len cap,cs=[.slice a len cap]∧∃ys:List α,RdF (fun j=>j<w.heap.size) w (.slice a len cap) ys∧∀y∈ys,Q y:=by
 rcases DataW.trod_slice ht h with⟨rfl,_⟩|⟨a,len,cap,elems,rest,n,rfl,rfl,_,_,hl,hm,hlen,hat,_⟩
 ·exact⟨none,0,0,rfl,[],RdF.nil _ _,fun y hy=>by cases hy⟩
 ·have cell:∀i,i<len→∃y:α,Q y∧∀j u,(enc y)[j]? =some u→w.cell? (a.add (i*sz α+j))=some u:=by
   intro i hi
   have h1:=hat i hi
   rw[List.getElem?_eq_getElem (by omega),Option.bind_eq_some_iff]at h1
   obtain⟨cs',hcs,htr⟩:=h1
   obtain⟨_,hcl,hcell⟩:=World.cells?_some hcs
   rw[hc]at hcl
   obtain⟨y,hy,hq⟩:=hel n (Nat.lt_succ_self n) cs' _ hcl htr
   refine⟨y,hq,fun j u hj=> ?_⟩
   have hjl:j<sz α:=by have:=(zge hj).1;rwa[Cells.len]at this
   rw[hc]at hcell
   rw[←Go.Deep.add_add,hcell j hjl,hy]
   exact hj
  have hch:=Classical.axiomOfChoice (fun i=>show∃y:α,i<len→Q y∧∀j u,(enc y)[j]? =some u→w.cell? (a.add (i*sz α+j))=some u from by
   by_cases hi:i<len
   ·obtain⟨y,h⟩:=cell i hi;exact⟨y,fun _=>h⟩
   ·exact⟨dflt,fun h=>absurd h hi⟩)
  obtain⟨f,hf⟩:=hch
  refine⟨some a,len,cap,rfl,(List.range len).map f,⟨some a,cap,by simp,by simpa using hl,hm,?_⟩,?_⟩
  ·intro i y hy
   have hi:i<len:=by have:=(zge hy).1;simpa using this
   simp[hi]at hy
   subst hy
   obtain⟨_,h2⟩:=hf i hi
   obtain⟨b,off,rfl,hb⟩:∃b off,a=⟨b,off,none⟩∧b<w.heap.size:=by
    have hlen2:(enc (f 0)).length=sz α:=Cells.len _
    have hu:(enc (f 0))[0]? =some ((enc (f 0))[0]'(by omega)):=List.getElem?_eq_getElem _
    have hc:=(hf 0 (by omega)).2 0 _ hu
    simp only[Nat.zero_mul,Nat.add_zero]at hc
    obtain⟨b,off,spot⟩:=a
    have hs:spot=none:=by simpa[Addr.add]using World.cell?_spot hc
    subst hs
    exact⟨b,off,rfl,by simpa[Addr.add]using World.block_lt_of_cell? w _ hc⟩
   refine⟨b,off,rfl,hb,hb,fun j u hj=> ?_⟩
   have:=h2 j u hj
   simp only[Go.WideShapes.add_plain]at this
   exact this
  ·intro y hy
   obtain⟨i,hi,rfl⟩:=List.mem_map.1 hy
   exact(hf i (List.mem_range.1 hi)).1
theorem list_of {α:Type}{R:α→Val→Prop}:∀(ys:List α),(∀y∈ys,∃v,R y v)→∃l:List Val,ys.length=l.length∧∀(i:Nat) (c:α) (x:Val),ys[i]? =some c→l[i]? =some x→R c x
 |[],_=>⟨[],rfl,fun i c x h=>by simp at h⟩
 |y::r,h=>by
  obtain⟨v,hv⟩:=h y (List.mem_cons_self ..)
  obtain⟨l,h1,h2⟩:=list_of r (fun z hz=>h z (List.mem_cons_of_mem _ hz))
  refine⟨v::l,by simp[h1],fun i c x hc hx=> ?_⟩
  cases i with
  |zero=>
   simp at hc hx
   subst hc hx
   exact hv
  |succ i=>exact h2 i c x (by simpa using hc) (by simpa using hx)
theorem fields4 {cs:List Value}(h:cs.length=4):∃a b c d,cs=[a,b,c,d]:=by
 match cs,h with
 |[a,b,c,d],_=>exact⟨a,b,c,d,rfl⟩
theorem list_vf {w:World}{F:Nat→Prop}{v:Value}{ys:List VC}(hr:RdF F w v ys)(hq:∀y∈ys,∃x:Val,CF F w y x∧x.all B64):∃l:List Val,VF F w v l∧Val.all.allL B64 l:=by
 obtain⟨l,h1,h2⟩:=list_of (R:=fun(y:VC) (x:Val)=>CF F w y x∧x.all B64) ys hq
 refine⟨l,.mk v ys l hr h1 (fun i c x hc hx=>⟨(h2 i c x hc hx).1.kind,(h2 i c x hc hx).1.n,(h2 i c x hc hx).1.s⟩) (fun i c x hc hx=>(h2 i c x hc hx).1.l),Val.allL_iff.2 (fun x hx=> ?_)⟩
 obtain⟨i,hi⟩:=List.mem_iff_getElem?.1 hx
 have hil:i<ys.length:=by rw[h1];exact(zge hi).1
 exact(h2 i _ x (List.getElem?_eq_getElem hil) hi).2
theorem k_int:Tryz.prog.cellsOf 3=1:=by kernel_rfl
theorem k_i64:Tryz.prog.cellsOf 2=1:=by kernel_rfl
theorem k_str:Tryz.prog.cellsOf 9=1:=by kernel_rfl
theorem k_vals:Tryz.prog.cellsOf 24=1:=by kernel_rfl
theorem k_val:Tryz.prog.cellsOf 39=4:=by kernel_rfl
theorem k_ins:Tryz.prog.cellsOf 43=2:=by kernel_rfl
theorem k_code:Tryz.prog.cellsOf 23=1:=by kernel_rfl
theorem k_names:Tryz.prog.cellsOf 25=1:=by kernel_rfl
theorem k_img:Tryz.prog.cellsOf 27=4:=by kernel_rfl
theorem open_val:∀(fuel:Nat) (cs:List Value) (x:DataW H×List MemPlace),cs.length=4→DataW.trod tok Tryz.prog w base spare held fuel 39 cs=some x→∃y:VC,cs=enc y∧∃v:Val,CF (fun j=>j<w.heap.size) w y v∧v.all B64:=by
 intro fuel
 induction fuel using Nat.strongRecOn with
 |_ fuel ih=>
  intro cs x hl h
  obtain⟨xs,n,rfl,rfl,_,hxl,hf⟩:=DataW.trod_struct Tryz.underlying39 h
  obtain⟨c0,c1,c2,c3,rfl⟩:=fields4 hl
  match xs,hxl with
  |[x0,x1,x2,x3],_=>
   have h0:=hf 0 _ rfl
   have h1:=hf 1 _ rfl
   have h2:=hf 2 _ rfl
   have h3:=hf 3 _ rfl
   simp[k_int,k_i64,k_str,k_vals]at h0 h1 h2 h3
   obtain⟨n0,e0,_,b0⟩:=DataW.trod_int Tryz.underlying3 h0
   obtain⟨n1,e1,_,b1⟩:=DataW.trod_int Tryz.underlying2 h1
   obtain⟨s2,e2,_,_⟩:=DataW.trod_string Tryz.underlying9 h2
   obtain⟨la,ln,lc,e3,ys,hr,hq⟩:=open_rd (α:=VC) (Q:=fun y=>∃v:Val,CF (fun j=>j<w.heap.size) w y v∧v.all B64) Tryz.underlying24 k_val (by decide) ⟨0,0,.empty,none,0,0⟩ (fun m hm cs x hcl ht=>ih m (by omega) cs x hcl ht) h3
   simp at e0 e1 e2 e3
   subst e0 e1 e2 e3
   obtain⟨l,hvf,hall⟩:=list_vf hr hq
   refine⟨⟨n0,n1,s2,la,ln,lc⟩,rfl,.mk n0 n1 s2 l,⟨rfl,rfl,rfl,hvf⟩,?_⟩
   rw[Val.all]
   exact⟨⟨lit64 b0,lit64 b1⟩,hall⟩
theorem open_image {r:Reach}{b0:Nat}{v:Value}{d:DataW H}{p:List MemPlace}(hv:Value.okWide Tryz.prog w r b0 27 v)(h:DataW.Trod tok Tryz.prog w base spare held 27 v d p):
  ∃(i:IC) (im:Img),v= .agg #[.slice i.ca i.cn i.cc,.slice i.ka i.kn i.kc,.slice i.na i.nn i.nc,.int .i64 i.pl]∧IAt (fun j=>j<w.heap.size) w i im∧Val.all.allL B64 im.consts∧(∀c∈im.code,-9223372036854775808≤c.a∧c.a≤9223372036854775807):=by
 obtain⟨cs,rfl,hsz⟩:=okWide_struct Tryz.underlying27 hv
 obtain⟨fuel,hf⟩:=h
 rw[k_img]at hsz
 have hl4:cs.toList.length=4:=by simpa using hsz
 obtain⟨xs,n,rfl,_,_,hxl,hf⟩:=DataW.trod_struct Tryz.underlying27 hf
 obtain⟨c0,c1,c2,c3,hl⟩:=fields4 hl4
 match xs,hxl with
 |[x0,x1,x2,x3],_=>
  have h0:=hf 0 _ rfl
  have h1:=hf 1 _ rfl
  have h2:=hf 2 _ rfl
  have h3:=hf 3 _ rfl
  simp[Value.cells,hl,k_int,k_code,k_names,k_vals]at h0 h1 h2 h3
  obtain⟨ca,cn,cc,e0,ys0,r0,q0⟩:=open_rd (α:=In) (Q:=fun y=> -9223372036854775808≤y.a∧y.a≤9223372036854775807) Tryz.underlying23 k_ins (by decide) ⟨0,0⟩ (fun m hm cs x hcl ht=>by
   obtain⟨us,m2,_,_,_,hul,hg⟩:=DataW.trod_struct Tryz.underlying43 ht
   match cs,hcl with
   |[u,v],_=>
    match us,hul with
    |[y0,y1],_=>
     have g0:=hg 0 _ rfl
     have g1:=hg 1 _ rfl
     simp[k_int]at g0 g1
     obtain⟨m0,f0,_,_⟩:=DataW.trod_int Tryz.underlying3 g0
     obtain⟨m1,f1,_,b1⟩:=DataW.trod_int Tryz.underlying3 g1
     simp at f0 f1
     subst f0 f1
     exact⟨⟨m0,m1⟩,rfl,lit64 b1⟩) h0
  obtain⟨ka,kn,kc,e1,ys1,r1,q1⟩:=open_rd (α:=VC) (Q:=fun y=>∃v:Val,CF (fun j=>j<w.heap.size) w y v∧v.all B64) Tryz.underlying24 k_val (by decide) ⟨0,0,.empty,none,0,0⟩ (fun m _ cs x hcl ht=>open_val m cs x hcl ht) h1
  obtain⟨na,nn,nc,e2,ys2,r2,_⟩:=open_rd (α:=ByteArray) (Q:=fun _=>True) Tryz.underlying25 k_str (by decide) .empty (fun m hm cs x hcl ht=>by
   obtain⟨s,e,_,_⟩:=DataW.trod_string Tryz.underlying9 ht
   exact⟨s,e,trivial⟩) h2
  obtain⟨pl,e3,_,_⟩:=DataW.trod_int Tryz.underlying3 h3
  simp at e0 e1 e2 e3
  subst e0 e1 e2 e3
  obtain⟨l,hvf,hall⟩:=list_vf r1 q1
  refine⟨⟨ca,cn,cc,ka,kn,kc,na,nn,nc,pl⟩,⟨ys0,l,ys2,pl⟩,?_,⟨r0,hvf,r2,rfl⟩,hall,q0⟩
  congr 1
  exact Array.ext' (by simpa using hl)
end
theorem wf_of:∀{x:Val},x.all B64→x.all (fun _ _ s=>s.size≤1100)→x.wf
 | .mk k n s l,h1,h2=>by
   rw[Val.all]at h1 h2
   rw[Val.wf]
   exact⟨h1.1.1,h1.1.2,by have:=h2.1;omega,wfL_of h1.2 h2.2⟩
where wfL_of:∀{l:List Val},Val.all.allL B64 l→Val.all.allL (fun _ _ s=>s.size≤1100) l→Val.wf.wfL l
 |[],_,_=>by rw[Val.wf.wfL];trivial
 |x::r,h1,h2=>by
  rw[Val.all.allL]at h1 h2
  rw[Val.wf.wfL]
  exact⟨wf_of h1.1 h2.1,wfL_of h1.2 h2.2⟩
end Go.Proofs.YtakljipkaoahnaaGreatDoor
namespace Go.Va
open Go.Own Go.RowKit
open Go.Proofs.YtakljipkaoahnaaGreatDoor
theorem check_map:∀l:List Val,constErr (l.map cloneV)=constErr l
 |[]=>rfl
 |x::r=>by rw[List.map_cons,constErr,constErr,check_clone,check_map r]
theorem codeErr_clone (p:Img):∀l:List In,codeErr (cloneI p) l=codeErr p l
 |[]=>rfl
 |c::r=>by
  have hm:∀k,mostL (cloneI p) k=mostL p k:=fun k=>by unfold mostL cloneI;rw[List.length_map]
  rw[codeErr,codeErr,hm,codeErr_clone p r]
theorem imgL_clone (p:Img):imgL (cloneI p)=imgL p:=by
 unfold imgL
 rw[codeErr_clone]
 unfold cloneI
 simp only[List.length_map,check_map]
theorem checkG_clone (p:Img):checkG (cloneI p)=checkG p:=by
 unfold checkG
 rw[imgL_clone]
 rfl
end Go.Va
namespace Go.Proofs.YtakljipkaoahnaaGreatDoor
open Go.ChangeShapes Go.WideShapes Go.Deep Go.RowKit Go.Own Go.Va
open Go.Own.Cells (sz enc)
section
variable{H:Type} {tok:TypeId×Value→H} {w:World} {base:Nat} {spare:Nat→Bool} {held:Bool}
theorem list_of2 {α β:Type}{R:α→β→Prop}:∀(ys:List α),(∀y∈ys,∃v,R y v)→∃l:List β,ys.length=l.length∧∀(i:Nat) (c:α) (x:β),ys[i]? =some c→l[i]? =some x→R c x
 |[],_=>⟨[],rfl,fun i c x h=>by simp at h⟩
 |y::r,h=>by
  obtain⟨v,hv⟩:=h y (List.mem_cons_self ..)
  obtain⟨l,h1,h2⟩:=list_of2 r (fun z hz=>h z (List.mem_cons_of_mem _ hz))
  refine⟨v::l,by simp[h1],fun i c x hc hx=> ?_⟩
  cases i with
  |zero=>
   simp at hc hx
   subst hc hx
   exact hv
  |succ i=>exact h2 i c x (by simpa using hc) (by simpa using hx)
theorem fields11 {cs:List Value}(h:cs.length=11):∃a b c d e f g h i j k,cs=[a,b,c,d,e,f,g,h,i,j,k]:=by
 match cs,h with
 |[a,b,c,d,e,f,g,h,i,j,k],_=>exact⟨a,b,c,d,e,f,g,h,i,j,k,rfl⟩
theorem k_ev:Tryz.prog.cellsOf 60=11:=by kernel_rfl
theorem open_event (fuel:Nat)(cs:List Value)(x:DataW H×List MemPlace)(hl:cs.length=11)(h:DataW.trod tok Tryz.prog w base spare held fuel 60 cs=some x):∃y:EC,cs=enc y∧∃e:Ev,EvF (fun j=>j<w.heap.size) w y e∧e.v.all B64∧ -9223372036854775808≤e.time∧e.time≤9223372036854775807:=by
 obtain⟨xs,n,rfl,rfl,_,hxl,hf⟩:=DataW.trod_struct Tryz.underlying60 h
 obtain⟨c0,c1,c2,c3,c4,c5,c6,c7,c8,c9,c10,rfl⟩:=fields11 hl
 match xs,hxl with
 |[x0,x1,x2,x3,x4,x5,x6,x7],_=>
  have h0:=hf 0 _ rfl
  have h1:=hf 1 _ rfl
  have h2:=hf 2 _ rfl
  have h3:=hf 3 _ rfl
  have h4:=hf 4 _ rfl
  have h5:=hf 5 _ rfl
  have h6:=hf 6 _ rfl
  have h7:=hf 7 _ rfl
  simp[k_int,k_i64,k_str,k_val]at h0 h1 h2 h3 h4 h5 h6 h7
  obtain⟨n0,e0,_,_⟩:=DataW.trod_int Tryz.underlying3 h0
  obtain⟨n1,e1,_,b1⟩:=DataW.trod_int Tryz.underlying2 h1
  obtain⟨n2,e2,_,_⟩:=DataW.trod_int Tryz.underlying3 h2
  obtain⟨n3,e3,_,_⟩:=DataW.trod_int Tryz.underlying2 h3
  obtain⟨n4,e4,_,_⟩:=DataW.trod_int Tryz.underlying2 h4
  obtain⟨s5,e5,_,_⟩:=DataW.trod_string Tryz.underlying9 h5
  obtain⟨s6,e6,_,_⟩:=DataW.trod_string Tryz.underlying9 h6
  obtain⟨y,hy,v,hv,hb⟩:=open_val n _ _ rfl h7
  simp at e0 e1 e2 e3 e4 e5 e6
  subst e0 e1 e2 e3 e4 e5 e6
  obtain⟨yk,yn,ys,ya,yl,yc⟩:=y
  have hy:[c7,c8,c9,c10]=[.int .i64 yk,.int .i64 yn,.string ys,.slice ya yl yc]:=hy
  simp only[List.cons.injEq,and_true]at hy
  obtain⟨rfl,rfl,rfl,rfl⟩:=hy
  exact⟨⟨n0,n1,n2,n3,n4,s5,s6,⟨yk,yn,ys,ya,yl,yc⟩⟩,rfl,⟨n0,n1,n2,n3,n4,s5,s6,v⟩,⟨rfl,rfl,rfl,rfl,rfl,rfl,rfl,hv⟩,hb,(lit64 b1).1,(lit64 b1).2⟩
theorem open_events {a:Option Addr}{len cap:Nat}{d:DataW H}{p:List MemPlace}(h:DataW.Trod tok Tryz.prog w base spare held 47 (.slice a len cap) d p):∃l:List Ev,XRd (fun j=>j<w.heap.size) w (.slice a len cap) l∧∀e∈l,e.v.all B64∧ -9223372036854775808≤e.time∧e.time≤9223372036854775807:=by
 obtain⟨fuel,hf⟩:=h
 obtain⟨a',len',cap',he,ys,hr,hq⟩:=open_rd (α:=EC) (Q:=fun y=>∃e:Ev,EvF (fun j=>j<w.heap.size) w y e∧e.v.all B64∧ -9223372036854775808≤e.time∧e.time≤9223372036854775807) Tryz.underlying47 k_ev (by decide) ⟨0,0,0,0,0,.empty,.empty,⟨0,0,.empty,none,0,0⟩⟩ (fun m _ cs x hcl ht=>open_event m cs x hcl ht) hf
 simp[Value.cells]at he
 obtain⟨rfl,rfl,rfl⟩:=he
 obtain⟨l,h1,h2⟩:=list_of2 (R:=fun(y:EC) (e:Ev)=>EvF (fun j=>j<w.heap.size) w y e∧e.v.all B64∧ -9223372036854775808≤e.time∧e.time≤9223372036854775807) ys hq
 refine⟨l,⟨ys,hr,h1,fun i c x hc hx=>(h2 i c x hc hx).1⟩,fun e he=> ?_⟩
 obtain⟨i,hi⟩:=List.mem_iff_getElem?.1 he
 have hil:i<ys.length:=by rw[h1];exact(zge hi).1
 exact(h2 i _ e (List.getElem?_eq_getElem hil) hi).2
end
end Go.Proofs.YtakljipkaoahnaaGreatDoor
namespace Go.Proofs.YtakljipkaoahnaaGreatDoor
open Go.RowKit Go.Own Go.Own.MapTy Go.Va Go.Sort
open Go.Own.Cells (sz enc)
theorem fits14_step (n:Nat)(IH:∀(x:Val),x.parts≤n→∀(b:Nat) (d left:Int) (c:VC) (F:Nat→Prop) (w:World),LX w b left→CF F w c x→¬F b→0≤left→left≤400→0≤d→d≤100→
   Calls Tryz.prog 50 #[.agg #[.int .i64 c.kind,.int .i64 c.n,.string c.s,.slice c.la c.ln c.lc],.int .i64 d,.pointer (some ⟨b,0,none⟩)] w (FPost w b (fitV d x left)))
  (x:Val)(hx:x.parts≤n+1)(b:Nat)(d left:Int)(ck cn:Int)(cs:ByteArray)(la:Option Addr)(ln lc:Nat)(F:Nat→Prop)(w:World)(H:LX w b left)(C:CF F w ⟨ck,cn,cs,la,ln,lc⟩ x)(hF:¬F b)(h0:0≤left)(h4:left≤400)(hd0:0≤d)(hd:d≤100)(r:Bool×Int)(hr:fitV d x left=r):
  Calls Tryz.prog 50 #[.agg #[.int .i64 ck,.int .i64 cn,.string cs,.slice la ln lc],.int .i64 d,.pointer (some ⟨b,0,none⟩)] w (FPost w b r):=by
 rw[fitV_eq]at hr
 have HI:=zhd IH
 have hcs:cs=x.txt:=C.s
 rw[←hcs]at hr
 have b0:=zlt H
 have c0:=H.c
 have f0:∀o,w.frozen? ⟨b,o,none⟩=false:=fun o=>zfr H o
 obtain⟨hln,hlm,hel⟩:=C.l.elems
 dsimp only at hln hlm hel
 have hw1:IntKind.i64.wrap (left - 1)=left - 1:=IntWalk.i64_in _ (by omega)
 have hwd:IntKind.i64.wrap (d+1)=d+1:=IntWalk.i64_in _ (by omega)
 have HL:=zhd hln
 have hlm':ln≤9223372036854775807:=by unfold maxLen at hlm;omega
 have HE:=zhd hel
 have bne:¬w.heap.size=b:=by omega
 have bne2:¬b=w.heap.size:=by omega
 have HS:=zh2 (H.set (left - 1)) (Keeps.setCell (S:=fun j=>j=b) (p:=⟨b,0,none⟩) (Keeps.refl _ w) (.inl rfl) (.int .i64 (left - 1)))
 clear IH C hcs H hln hlm hel
 go_enter Tryz.func50,Tryz.ntmps50
 have key:(decide (left - 1<0)||(decide (12<d)||decide (1100<cs.size)))=true∨(decide (left - 1<0)=false∧decide (12<d)=false∧decide (1100<cs.size)=false):=by
  cases decide (left - 1<0)<;>cases decide (12<d)<;>cases decide (1100<cs.size)<;>simp
 rcases key with hc|⟨h1,h2,h3⟩
 ·rw[hc]at hr
  simp only[cond_true]at hr
  subst hr
  have KA:∀(X:World) (o:Obj),Keeps (fun j=>j=b) X (X.alloc o):=fun X o=>(Keeps.refl _ _).alloc _
  cases h1:decide (left - 1<0)with
  |true=>
   clear hc
   go_wp2_with fail
   go_ret
   exact⟨rfl,zhd ⟨HS.out.1.keep (S:=fun _=>False) ((Keeps.refl _ _).alloc _) (fun f=>f),HS.out.2.alloc _⟩⟩
  |false=>
   cases h2:decide (12<d)with
   |true=>
    clear hc
    go_wp2_with fail
    go_ret
    exact⟨rfl,zhd ⟨HS.out.1.keep (S:=fun _=>False) ((Keeps.refl _ _).alloc _) (fun f=>f),HS.out.2.alloc _⟩⟩
   |false=>
    have h3:decide (1100<cs.size)=true:=by rw[h1,h2]at hc;simpa using hc
    have h4:(1100:Int)<cs.size:=by have:=of_decide_eq_true h3;omega
    clear hc h3
    go_wp2_with fail
    go_ret
    exact⟨rfl,zhd ⟨HS.out.1.keep (S:=fun _=>False) ((Keeps.refl _ _).alloc _) (fun f=>f),HS.out.2.alloc _⟩⟩
 ·rw[h1,h2,h3]at hr
  simp only[Bool.or_self,cond_false]at hr
  have h5:¬(1100:Int)<cs.size:=by have:=of_decide_eq_false h3;omega
  have h6:0≤left - 1:=by have:=of_decide_eq_false h1;omega
  have hl:=zhd hr
  clear hr h3
  go_wp2_with fail
  obtain⟨w1,hw1'⟩:∃w1,w1=(w.setCell ⟨b,0,none⟩ (.int .i64 (left - 1))).alloc (.cells #[.int .i64 ck,.int .i64 cn,.string cs,.slice la ln lc] 39):=⟨_,rfl⟩
  have X1:LX w1 b (left - 1):=by rw[hw1'];exact HS.out.1.keep (S:=fun _=>False) ((Keeps.refl _ _).alloc _) (fun f=>f)
  have K1:Keeps (fun j=>j=b) w w1:=by rw[hw1'];exact HS.out.2.alloc _
  rw[←hw1']
  have H1:=zh2 X1 K1
  clear hw1' X1 K1 c0 f0 bne bne2
  go_loopg [31] (x.list.length) (fun gk v31 wr=>FRel w b (d+1) x.list r gk v31 wr)
  case atStart=>exact⟨0,_,rfl,Nat.zero_le _,rfl,H1.out.1,H1.out.2,hl.out,h6,by omega⟩
  case round=>
   obtain⟨i,cur,rfl,hi,hgk,hX,hK,hf,hc0,hc4⟩:=hrel
   by_cases hin:i<ln
   ·obtain⟨y,hy⟩:=elem_at (l:=x.list) (k:=i) (by have:=HL.out;omega)
    obtain⟨g,off,rfl,hFg,hg,hel⟩:=HE.out.resolve_left (fun e=>by rw[e]at hy;simp at hy)
    obtain⟨c',hC,q0,q1,q2,q3⟩:=hel i y hy
    have hgb:¬g=b:=fun e=>hF (e▸hFg)
    have hgl:g<wr.heap.size:=by have:=hK.size;omega
    rw[←hK.cell (p:=⟨g,_,none⟩) hg hgb]at q0 q1 q2 q3
    have hdr:x.list.drop i=y::x.list.drop (i+1):=by
     rw[List.drop_eq_getElem_cons (zge hy).1,(zge hy).2]
    rw[hdr,fitL_cons]at hf
    have hyp:y.parts≤n:=by
     have:=Val.parts_lt (v:=x) (zmg hy)
     omega
    have hin':(i:Int)<ln:=by omega
    have hwi:IntKind.i64.wrap ((i:Int)+1)=(i:Int)+1:=IntWalk.i64_in _ (by omega)
    have CA:=zhd (HI.out y hyp b (d+1) cur c' F _ (hX.keep (S:=fun _=>False) ((Keeps.refl _ _).alloc (.cells #[.int .i64 c'.kind,.int .i64 c'.n,.string c'.s,.slice c'.la c'.ln c'.lc] 39)) (fun f=>f)) ((hC.keep hK (fun g h e=>hF (e▸h))).keep (S:=fun _=>False) ((Keeps.refl _ _).alloc _) (fun _ _ f=>f)) hF hc0 hc4 (by omega) (by have:=of_decide_eq_false h2;omega))
    have hbd:=fitV_bd y (d+1) cur hc4
    generalize fitV (d+1) y cur=fv at*
    have HX:=zh4 hf hgk hK hbd
    clear hf hgk hK hbd hC hX hdr hy hel
    go_wp2_with fail
    refine CA.out.mono ?_
    rintro e w5 ⟨rfl,H5⟩
    have K5:Keeps (fun j=>j=b) w w5:=(HX.out.2.2.1.alloc _).trans H5.out.2 (fun _ _ e=>e)
    have HK5:=zhd K5
    clear K5 CA
    cases hfv:fv.1 with
    |false=>
     have hr:=HX.out.1
     rw[hfv]at hr
     simp only[cond_false]at hr
     subst hr
     go_wp2_with fail
     go_ret
     exact⟨rfl,zhd ⟨H5.out.1,HK5.out⟩⟩
    |true=>
     have hr:=HX.out.1
     rw[hfv]at hr
     simp only[cond_true]at hr
     have HR:=zhd hr
     clear hr
     go_wp2_with fail
     go_roundg (x.list.length - (i+1))
     case measure=>have:=HX.out.2.1;have:=HL.out;omega
     case rel=>exact⟨i+1,fv.2,by simp,by have:=HL.out;omega,rfl,H5.out.1,HK5.out,HR.out,HX.out.2.2.2.2 hfv,HX.out.2.2.2.1⟩
   ·obtain rfl:i=ln:=by have:=HL.out;omega
    rw[List.drop_eq_nil_of_le (by have:=HL.out;omega),fitL_nil]at hf
    have HX:=zh2 hX hK
    subst hf
    clear hX hK hgk
    go_wp2_with fail
    go_ret
    exact⟨rfl,zhd ⟨HX.out.1,HX.out.2⟩⟩
theorem fits14_any:∀(n:Nat) (x:Val),x.parts≤n→∀(b:Nat) (d left:Int) (c:VC) (F:Nat→Prop) (w:World),LX w b left→CF F w c x→¬F b→0≤left→left≤400→0≤d→d≤100→
  Calls Tryz.prog 50 #[.agg #[.int .i64 c.kind,.int .i64 c.n,.string c.s,.slice c.la c.ln c.lc],.int .i64 d,.pointer (some ⟨b,0,none⟩)] w (FPost w b (fitV d x left))
 |0,x,hx,_,_,_,_,_,_,_,_,_,_,_,_,_=>by have:=x.parts_pos;omega
 |n+1,x,hx,b,d,left,⟨ck,cn,cs,la,ln,lc⟩,F,w,H,C,hF,h0,h4,hd0,hd=>fits14_step n (fun y hy=>fits14_any n y hy) x hx b d left ck cn cs la ln lc F w H C hF h0 h4 hd0 hd _ rfl
theorem take_all {α:Type}{P:α→Prop}{l:List α}{i:Nat}{x:α}(h:∀y∈l.take i,P y)(hx:l[i]? =some x)(hp:P x):∀y∈l.take (i+1),P y:=fun y hy=>by
 rw[List.take_add_one,hx]at hy
 rcases List.mem_append.1 hy with hy|hy
 ·exact h y hy
 ·simp at hy
  rw[hy]
  exact hp
theorem small14_any (F:Nat→Prop)(w:World)(i:IC)(p:Img)(H:IAt F w i p)(G:Nat→Prop)(ea:Option Addr)(en ec:Nat)(l:List Ev)(E:XRd G w (.slice ea en ec) l):
  Calls Tryz.prog 17 #[.agg #[.slice i.ca i.cn i.cc,.slice i.ka i.kn i.kc,.slice i.na i.nn i.nc,.int .i64 i.pl],.slice ea en ec] w (SmPost p l w):=by
 obtain⟨h1,h2,h3⟩:=H.lens
 have h4:en=l.length:=by obtain⟨a,c,h⟩:=E.slice;cases h;rfl
 have hk:=H.consts.elems.2.2
 have hn:=H.names.elems.2.2
 obtain⟨ca,cn,cc,ka,kn,kc,na,nn,nc,pl⟩:=i
 dsimp only at h1 h2 h3 hk hn
 have HE:=zh3 hk hn E
 have HL:=zh4 h1 h2 h3 h4
 clear H h1 h2 h3 hk hn h4 E
 dsimp only
 go_enter Tryz.func17,Tryz.ntmps17
 by_cases g1:40<cn
 ·have e1:(40:Int)<cn:=by omega
  clear g1
  go_wp2_with fail
  go_ret
  exact⟨false,rfl,zhd ⟨fun h=>(by cases h),zal⟩⟩
 ·have e1:¬(40:Int)<cn:=by omega
  by_cases g2:20<kn
  ·have e2:(20:Int)<kn:=by omega
   clear g1 g2
   go_wp2_with fail
   go_ret
   exact⟨false,rfl,zhd ⟨fun h=>(by cases h),zal⟩⟩
  ·have e2:¬(20:Int)<kn:=by omega
   by_cases g3:20<nn
   ·have e3:(20:Int)<nn:=by omega
    clear g1 g2 g3
    go_wp2_with fail
    go_ret
    exact⟨false,rfl,zhd ⟨fun h=>(by cases h),zal⟩⟩
   ·have e3:¬(20:Int)<nn:=by omega
    by_cases g4:20<en
    ·have e4:(20:Int)<en:=by omega
     clear g1 g2 g3 g4
     go_wp2_with fail
     go_ret
     exact⟨false,rfl,zhd ⟨fun h=>(by cases h),zal⟩⟩
    ·have e4:¬(20:Int)<en:=by omega
     have HG:=zh4 g1 g2 g3 g4
     have hkn:kn≤20:=by omega
     have hnn:nn≤20:=by omega
     have hen:en≤20:=by omega
     clear g1 g2 g3 g4
     go_wp2_with fail
     obtain⟨w1,hw1⟩:∃w1,w1=(w.alloc (.cells #[.slice ca cn cc,.slice ka kn kc,.slice na nn nc,.int .i64 pl] 27)).alloc (.cells #[.int .i64 100] 3):=⟨_,rfl⟩
     have B1:Below w.heap.size w w1:=by rw[hw1];exact(zal).alloc (by simp) _
     have X1:LX w1 (w.heap.size+1) 100:=by rw[hw1];exact heap_new2
     have hb1:w1.heap[w.heap.size]? =some (.cells #[.slice ca cn cc,.slice ka kn kc,.slice na nn nc,.int .i64 pl] 27 (0,0)):=by rw[hw1];exact heap_lt2
     rw[←hw1]
     have H1:=zh3 B1 X1 hb1
     clear hw1 B1 X1 hb1
     go_loopg [36] (p.consts.length) (fun gk v36 wr=>Sm1 w1 (w.heap.size+1) p.consts gk v36 wr)
     case atStart=>exact⟨0,100,rfl,Nat.zero_le _,rfl,H1.out.2.1,Keeps.refl _ _,by decide,by decide,fun x h=>by simp at h⟩
     case round=>
      obtain⟨i,cur,rfl,hi,hgk,hX,hK,hc0,hc4,hall⟩:=hrel
      have hbw:Below w.heap.size w wr:=H1.out.1.trans (hK.below (by have:=zlt H1.out.2.2;omega) (fun j hj e=>by omega))
      by_cases hin:i<kn
      ·obtain⟨y,hy⟩:=elem_at (l:=p.consts) (k:=i) (by have:=HL.out.2.1;omega)
       obtain⟨g,off,rfl,hFg,hg,hel⟩:=HE.out.1.resolve_left (fun e=>by rw[e]at hy;simp at hy)
       obtain⟨c',hC,q0,q1,q2,q3⟩:=hel i y hy
       have hgl:g<wr.heap.size:=by have:=hbw.size;omega
       rw[←hbw.cell (p:=⟨g,_,none⟩) hg]at q0 q1 q2 q3
       have hin':(i:Int)<kn:=by omega
       have hwi:IntKind.i64.wrap ((i:Int)+1)=(i:Int)+1:=IntWalk.i64_in _ (by omega)
       have CA:=zhd (fits14_any _ y (Nat.le_refl _) (w.heap.size+1) 0 cur c' (fun j=>j<w.heap.size) _ (hX.keep (S:=fun _=>False) ((Keeps.refl _ _).alloc (.cells #[.int .i64 c'.kind,.int .i64 c'.n,.string c'.s,.slice c'.la c'.ln c'.lc] 39)) (fun f=>f)) (((hC.mono (G:=fun j=>j<w.heap.size) (fun g _ hl=>hl)).keep (S:=fun _=>False) (zkb hbw) (fun _ _ f=>f)).keep (S:=fun _=>False) ((Keeps.refl _ _).alloc _) (fun _ _ f=>f)) (by omega) hc0 hc4 (by decide) (by decide))
       have hbd:=fitV_bd y 0 cur hc4
       have htx:=fitV_txt y 0 cur
       generalize fitV 0 y cur=fv at*
       have HX:=zh7 hgk hK hbd hbw hall hy htx
       clear hgk hK hbd hC hX hy hel hbw hall htx
       go_wp2_with fail
       refine CA.out.mono ?_
       rintro e w5 ⟨rfl,H5⟩
       have K5:=(HX.out.2.1.alloc (.cells #[.int .i64 c'.kind,.int .i64 c'.n,.string c'.s,.slice c'.la c'.ln c'.lc] 39)).trans H5.out.2 (fun _ _ e=>e)
       have HK5:=zhd K5
       clear K5 CA
       cases hfv:fv.1 with
       |false=>
        clear hfv
        go_wp2_with fail
        go_ret
        exact⟨false,rfl,zhd ⟨fun h=>(by cases h),H1.out.1.trans (HK5.out.below (by have:=zlt H1.out.2.2;omega) (fun j hj e=>by omega))⟩⟩
       |true=>
        have HFV:=zhd hfv
        clear hfv
        go_wp2_with fail
        go_roundg (p.consts.length - (i+1))
        case measure=>have:=HX.out.1;have:=HL.out.2.1;omega
        case rel=>exact⟨i+1,fv.2,by simp,by have:=HL.out.2.1;omega,rfl,H5.out.1,HK5.out,HX.out.2.2.1.2 HFV.out,HX.out.2.2.1.1,take_all HX.out.2.2.2.2.1 HX.out.2.2.2.2.2.1 (HX.out.2.2.2.2.2.2 HFV.out)⟩
      ·obtain rfl:i=kn:=by have:=HL.out.2.1;omega
       rw[List.take_of_length_le (by have:=HL.out.2.1;omega)]at hall
       obtain⟨wo,rfl⟩:∃wo:World,wo=wr:=⟨_,rfl⟩
       have HC:=zh6 hall hbw hK hX hc0 hc4
       clear hall hbw hK hX hc0 hc4 hgk
       go_wp2_with fail
       go_loopg [46] (l.length) (fun gk v46 wr=>Sm2 wo (w.heap.size+1) l gk v46 wr)
       case atStart=>exact⟨0,cur,rfl,Nat.zero_le _,rfl,HC.out.2.2.2.1,Keeps.refl _ _,HC.out.2.2.2.2.1,HC.out.2.2.2.2.2,fun x h=>by simp at h⟩
       case round=>
        obtain⟨j,cur2,rfl,hj,hgk,hX,hK,hc0,hc4,hall⟩:=hrel
        have hbw:Below w.heap.size w wr:=HC.out.2.1.trans (hK.below (by have:=zlt H1.out.2.2;have:=HC.out.2.2.1.size;omega) (fun j hj e=>by omega))
        by_cases hjn:j<en
        ·obtain⟨ev,hev⟩:=elem_at (l:=l) (k:=j) (by have:=HL.out.2.2.2;omega)
         obtain⟨g,off,⟨z0,z1,z2,z3,z4,z5,z6,⟨zk,zn,zs,za,zl,zc⟩⟩,rfl,hFg,hg,hrel,hcs⟩:=HE.out.2.2.at_ hev
         have hgl:g<wr.heap.size:=by have:=hbw.size;omega
         have q0:w.cell? ⟨g,off+j*11,none⟩=some (.int .i64 z0):=hcs 0 _ rfl
         have q1:w.cell? ⟨g,off+j*11+1,none⟩=some (.int .i64 z1):=hcs 1 _ rfl
         have q2:w.cell? ⟨g,off+j*11+2,none⟩=some (.int .i64 z2):=hcs 2 _ rfl
         have q3:w.cell? ⟨g,off+j*11+3,none⟩=some (.int .i64 z3):=hcs 3 _ rfl
         have q4:w.cell? ⟨g,off+j*11+4,none⟩=some (.int .i64 z4):=hcs 4 _ rfl
         have q5:w.cell? ⟨g,off+j*11+5,none⟩=some (.string z5):=hcs 5 _ rfl
         have q6:w.cell? ⟨g,off+j*11+6,none⟩=some (.string z6):=hcs 6 _ rfl
         have q7:w.cell? ⟨g,off+j*11+7,none⟩=some (.int .i64 zk):=hcs 7 _ rfl
         have q8:w.cell? ⟨g,off+j*11+8,none⟩=some (.int .i64 zn):=hcs 8 _ rfl
         have q9:w.cell? ⟨g,off+j*11+9,none⟩=some (.string zs):=hcs 9 _ rfl
         have q10:w.cell? ⟨g,off+j*11+10,none⟩=some (.slice za zl zc):=hcs 10 _ rfl
         rw[←hbw.cell (p:=⟨g,_,none⟩) hg]at q0 q1 q2 q3 q4 q5 q6 q7 q8 q9 q10
         have hjn':(j:Int)<en:=by omega
         have hwi:IntKind.i64.wrap ((j:Int)+1)=(j:Int)+1:=IntWalk.i64_in _ (by omega)
         have hrel2:EvF G w ⟨z0,z1,z2,z3,z4,z5,z6,⟨zk,zn,zs,za,zl,zc⟩⟩ ev:=hrel
         have CA:=zhd (fits14_any _ ev.v (Nat.le_refl _) (w.heap.size+1) 0 cur2 ⟨zk,zn,zs,za,zl,zc⟩ (fun j=>j<w.heap.size) _ (hX.keep (S:=fun _=>False) ((Keeps.refl _ _).alloc (.cells #[.int .i64 z0,.int .i64 z1,.int .i64 z2,.int .i64 z3,.int .i64 z4,.string z5,.string z6,.int .i64 zk,.int .i64 zn,.string zs,.slice za zl zc] 60)) (fun f=>f)) (((hrel2.v.mono (G:=fun j=>j<w.heap.size) (fun g _ hl=>hl)).keep (S:=fun _=>False) (zkb hbw) (fun _ _ f=>f)).keep (S:=fun _=>False) ((Keeps.refl _ _).alloc _) (fun _ _ f=>f)) (by omega) hc0 hc4 (by decide) (by decide))
         have hbd:=fitV_bd ev.v 0 cur2 hc4
         have htx:=fitV_txt ev.v 0 cur2
         generalize fitV 0 ev.v cur2=fv at*
         have HX:=zh7 hgk hK hbd hbw hall hev htx
         clear hgk hK hbd hrel hrel2 hX hev hcs hbw hall htx
         have bad:∀W',Keeps (fun j=>j=w.heap.size+1) wo W'→Below w.heap.size w W':=fun W' K=>HC.out.2.1.trans (K.below (by have:=zlt H1.out.2.2;have:=HC.out.2.2.1.size;omega) (fun j hj e=>by omega))
         have HBA:=zhd bad
         clear bad
         by_cases y1:(100:Int)<z5.size
         ·have _u:=trivial
          go_wp2_with fail
          go_ret
          exact⟨false,rfl,zhd ⟨fun h=>(by cases h),HBA.out _ (HX.out.2.1.alloc _)⟩⟩
         ·by_cases y2:(200:Int)<z6.size
          ·have _u:=trivial
           go_wp2_with fail
           go_ret
           exact⟨false,rfl,zhd ⟨fun h=>(by cases h),HBA.out _ (HX.out.2.1.alloc _)⟩⟩
          ·have _u:=trivial
           go_wp2_with fail
           refine CA.out.mono ?_
           rintro e w5 ⟨rfl,H5⟩
           have HK5:=zhd ((HX.out.2.1.alloc (.cells #[.int .i64 z0,.int .i64 z1,.int .i64 z2,.int .i64 z3,.int .i64 z4,.string z5,.string z6,.int .i64 zk,.int .i64 zn,.string zs,.slice za zl zc] 60)).trans H5.out.2 (fun _ _ e=>e))
           clear CA
           cases hfv:fv.1 with
           |false=>
            clear hfv
            go_wp2_with fail
            go_ret
            exact⟨false,rfl,zhd ⟨fun h=>(by cases h),HBA.out _ HK5.out⟩⟩
           |true=>
            have HFV:=zhd hfv
            clear hfv
            go_wp2_with fail
            go_roundg (l.length - (j+1))
            case measure=>have:=HX.out.1;have:=HL.out.2.2.2;omega
            case rel=>exact⟨j+1,fv.2,by simp,by have:=HL.out.2.2.2;omega,rfl,H5.out.1,HK5.out,HX.out.2.2.1.2 HFV.out,HX.out.2.2.1.1,take_all HX.out.2.2.2.2.1 HX.out.2.2.2.2.2.1 (HX.out.2.2.2.2.2.2 HFV.out)⟩
        ·obtain rfl:j=en:=by have:=HL.out.2.2.2;omega
         rw[List.take_of_length_le (by have:=HL.out.2.2.2;omega)]at hall
         have hb2:=(hK.block w.heap.size (Nat.lt_of_lt_of_le (zlt H1.out.2.2) HC.out.2.2.1.size) (by omega)).trans ((HC.out.2.2.1.block w.heap.size (zlt H1.out.2.2) (by omega)).trans H1.out.2.2)
         have q2:=zca hb2 2 rfl
         have lt1:=zlt hb2
         obtain⟨wp,rfl⟩:∃wp:World,wp=wr:=⟨_,rfl⟩
         have HR2:=zh2 hall hbw
         clear hall hbw hK hX hgk hb2
         go_wp2_with fail
         go_loopg [70] (p.names.length) (fun gk v70 wr=>∃j:Nat,v70= .int .i64 j∧j≤p.names.length∧gk=p.names.length - j∧wr=wp)
         case atStart=>exact⟨0,rfl,Nat.zero_le _,rfl,rfl⟩
         case round=>
          obtain⟨m,rfl,hm,hgk,hwr⟩:=hrel
          subst hwr
          by_cases hmn:m<nn
          ·obtain⟨x,hx⟩:=elem_at (l:=p.names) (k:=m) (by have:=HL.out.2.2.1;omega)
           obtain⟨g,off,ha,hel⟩:=HE.out.2.1
           obtain⟨hFg,hg,hcs⟩:=hel m x hx
           have ha:=ha.resolve_right (fun e=>by rw[e]at hx;simp at hx)
           subst ha
           have m0:=hcs 0 _ rfl
           rw[show off+(m*sz ByteArray+0)=off+m from by simp[Cells.sz]]at m0
           rw[←HR2.out.2.cell (p:=⟨g,_,none⟩) hg]at m0
           have hgl:g<wr.heap.size:=by have:=HR2.out.2.size;omega
           have hmn':(m:Int)<nn:=by omega
           have HGK:=zhd hgk
           clear hgk hx hcs hel
           by_cases h5:(100:Int)<x.size
           ·go_wp2_with fail
            go_ret
            exact⟨false,rfl,zhd ⟨fun h=>(by cases h),HR2.out.2⟩⟩
           ·go_wp2_with fail
            go_roundg (p.names.length - (m+1))
            case measure=>have:=HGK.out;have:=HL.out.2.2.1;omega
            case rel=>exact⟨m+1,by simp,by have:=HL.out.2.2.1;omega,rfl,rfl⟩
          ·obtain rfl:m=nn:=by have:=HL.out.2.2.1;omega
           clear hgk
           go_wp2_with fail
           go_ret
           exact⟨true,rfl,zhd ⟨fun _=>⟨by have:=HL.out.1;have:=HG.out.1;omega,by have:=HL.out.2.2.2;omega,HC.out.1,HR2.out.1⟩,HR2.out.2⟩⟩
theorem BoxI.all5 {w:World}{b:Nat}{i:IC}(h:BoxI w b i):w.cell? ⟨b,0,none⟩=some (.slice i.ca i.cn i.cc)∧w.cell? ⟨b,1,none⟩=some (.slice i.ka i.kn i.kc)∧w.cell? ⟨b,2,none⟩=some (.slice i.na i.nn i.nc)∧w.cell? ⟨b,3,none⟩=some (.int .i64 i.pl)∧b<w.heap.size:=⟨h.c0,h.c1,h.c2,h.c3,h.lt⟩
theorem wf_ev {x:Val}(h1:x.all B64)(h2:x.all (fun _ _ s=>s.size≤1100)):x.wf:=wf_of h1 h2
end Go.Proofs.YtakljipkaoahnaaGreatDoor
