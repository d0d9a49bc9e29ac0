/- Parts of the proof: what the functions and the plain laws give that later parts lean on. Conditions: none beyond those that each theorem names. -/
import Derived.Deep.Slices
import Derived.Deep.Fields
import Derived.ChangeSame
import Derived.OpenShut
import Derived.Test.YtakljipkaoahnaaGreatDoorB12
set_option maxRecDepth 100000
set_option maxHeartbeats 8000000
namespace Go.Va
open Go.Own Go.RowKit
def spF (code:List In):Nat→Nat→Nat
 |0,_=>0
 |f+1,k=>bif restsAt code k then 1 else(followAt code k).foldl (fun n x=>max n (spF code f x)) 0+1
def dnF (code:List In):Nat→Nat→Prop
 |0,_=>False
 |f+1,k=>restsAt code k=true∨∀x∈followAt code k,dnF code f x
theorem foldl_congr {α β:Type}{g h:α→β→α}:∀(l:List β) (a:α),(∀x∈l,∀a,g a x=h a x)→l.foldl g a=l.foldl h a
 |[],_,_=>rfl
 |x::r,a,hx=>by
  rw[List.foldl_cons,List.foldl_cons,hx x (List.mem_cons_self ..)]
  exact foldl_congr r _ (fun y hy=>hx y (List.mem_cons_of_mem _ hy))
theorem dn_mono {code:List In}:∀{f g k:Nat},dnF code f k→f≤g→dnF code g k∧spF code g k=spF code f k
 |0,_,_,h,_=>h.elim
 |f+1,0,_,_,hg=>by omega
 |f+1,g+1,k,h,hg=>by
  rw[dnF]at h
  rw[dnF,spF,spF]
  cases hr:restsAt code k with
  |true=>exact⟨.inl rfl,rfl⟩
  |false=>
   have h:=h.resolve_left (fun e=>by rw[hr]at e;cases e)
   refine⟨.inr (fun x hx=>(dn_mono (h x hx) (by omega:f≤g)).1),?_⟩
   simp only[cond_false]
   rw[foldl_congr (h:=fun n x=>max n (spF code f x)) _ _ (fun x hx a=>by rw[(dn_mono (h x hx) (by omega:f≤g)).2])]
theorem dn_same {code:List In}{f g k:Nat}(h:dnF code f k)(h':dnF code g k):spF code f k=spF code g k:=by
 rcases Nat.le_total f g with e|e
 ·exact(dn_mono h e).2.symm
 ·exact(dn_mono h' e).2
theorem foldl_max_le {g:Nat→Nat}{b:Nat}:∀(l:List Nat) (a:Nat),a≤b→(∀x∈l,g x≤b)→l.foldl (fun n x=>max n (g x)) a≤b
 |[],_,h,_=>h
 |x::r,a,h,hx=>by
  rw[List.foldl_cons]
  exact foldl_max_le r _ (by have:=hx x (List.mem_cons_self ..);omega) (fun y hy=>hx y (List.mem_cons_of_mem _ hy))
theorem spF_le (code:List In):∀f k:Nat,spF code f k≤f
 |0,_=>Nat.le_refl _
 |f+1,k=>by
  rw[spF]
  cases restsAt code k
  ·simp only[cond_false]
   have:=foldl_max_le (g:=spF code f) (b:=f) (followAt code k) 0 (by omega) (fun x _=>spF_le code f x)
   omega
  ·simp
theorem spF_pos {code:List In}{f k:Nat}(h:dnF code f k):0<spF code f k:=by
 cases f with
 |zero=>exact h.elim
 |succ f=>
  rw[spF]
  cases restsAt code k<;>simp
def KN (code:List In)(known:List Int):Prop:=∀(i:Nat) (v:Int),known[i]? =some v→0≤v∧(0<v→∃f,dnF code f i∧v=spF code f i)
theorem KN.set {code:List In}{known:List Int}(h:KN code known){f k:Nat}(hd:dnF code f k):KN code (known.set k (spF code f k)):=by
 intro i v hv
 rw[List.getElem?_set]at hv
 by_cases e:k=i
 ·subst e
  simp only[if_pos]at hv
  split at hv
  ·cases hv
   exact⟨by omega,fun _=>⟨f,hd,rfl⟩⟩
  ·cases hv
 ·rw[if_neg e]at hv
  exact h i v hv
end Go.Va
namespace Go.Proofs.YtakljipkaoahnaaGreatDoor
open Go.RowKit Go.Own Go.Own.MapTy Go.Va Go.Sort
open Go.Own.Cells (sz enc)
def SpPost (W:World)(kv:Value)(kb n:Nat)(code:List In)(r:Nat)(e:Ending)(w':World):Prop:=
 e= .returned (.int .i64 r)∧Hid (∃known,RowAt w' 3 kv known∧known.length=n∧KN code known∧Keeps (fun j=>j=kb) W w')
def SpRel (W:World)(kv:Value)(kb n:Nat)(code:List In)(f:Nat)(fv:Value)(fl:List Nat)(tot:Nat)(gk:Nat)(v35 v7:Value)(wr:World):Prop:=
 ∃(i m:Nat) (known:List Int),v35= .int .i64 i∧v7= .int .i64 m∧i≤fl.length∧gk=fl.length - i∧m≤f∧(fl.drop i).foldl (fun n x=>max n (spF code f x)) m=tot∧RowAt wr 3 kv known∧known.length=n∧KN code known∧Keeps (fun j=>j=kb) W wr∧RowAt wr 3 fv fl
theorem span_any (b:Nat)(F:Nat→Prop)(ca:Option Addr)(n cc:Nat)(code:List In)(OK:CodeOk code)(Rc:Nat→Prop)(hcl:∀k,Rc k→k<code.length∧∀x∈followAt code k,Rc x)(kb koff kc:Nat)(hkb:¬b=kb)(hF:∀j,F j→j≠kb):
  ∀(f k:Nat) (W:World) (known:List Int),f≤600→dnF code f k→Rc k→W.cell? ⟨b,0,none⟩=some (.slice ca n cc)→b<W.heap.size→RdF F W (.slice ca n cc) code→RowAt W 3 (.slice (some ⟨kb,koff,none⟩) n kc) known→known.length=n→KN code known→
  Calls Tryz.prog 53 #[.pointer (some ⟨b,0,none⟩),.int .i64 k,.slice (some ⟨kb,koff,none⟩) n kc] W (SpPost W (.slice (some ⟨kb,koff,none⟩) n kc) kb n code (spF code f k)):=by
 intro f
 induction f with
 |zero=>exact fun _ _ _ _ h=>h.elim
 |succ f ih=>
  intro k W known hf hd hRk q0 hbl HC RK hkl hKN
  have IH:=zhd ih
  have hnc:=HC.elems.1
  obtain⟨hkc,hkf⟩:=hcl k hRk
  obtain⟨c,hc⟩:=elem_at hkc
  have hcm:=zmg hc
  obtain⟨g,off,rfl,hg,m0,m1⟩:=code_cells HC hc
  obtain⟨v,hv⟩:=elem_at (l:=known) (k:=k) (by omega)
  have s0:=row_int RK hv
  have hkbl:kb<W.heap.size:=RK.lt rfl
  have hkn:(k:Int)<n:=by omega
  have fz:∀o,W.frozen? ⟨kb,o,none⟩=false:=fun o=>RK.frozen o
  have HS:=zh7 HC RK hkl hKN hd hkf hnc
  have QQ:=zhd q0
  have hKv:=hKN k v hv
  have hra:restsAt code k=restsL c:=by unfold restsAt;rw[hc]
  have hfa:followAt code k=followN c k:=by unfold followAt;rw[hc]
  have hsp:spF code (f+1) k=bif restsL c then 1 else(followN c k).foldl (fun n x=>max n (spF code f x)) 0+1:=by rw[spF,hra,hfa]
  have hdd:restsL c=true∨∀x∈followN c k,dnF code f x:=by have:=hd;rwa[dnF,hra,hfa]at this
  rw[hfa]at hkf
  have FO:=zhd (fun W' (K:Keeps (fun j=>j=kb) W W')=>follow_any (HC.keep K (fun j hj e=>hF j hj e)) k c hc (OK.a0 c hcm) (by have:=OK.len;omega))
  have hfl:=followN_len c k
  clear HC RK hkl hKN hnc hcm ih
  by_cases hv0:0<v
  ·have hr:v=((spF code (f+1) k:Nat):Int):=by
    obtain⟨f',h1,h2⟩:=hKv.2 hv0
    rw[h2,dn_same h1 hd]
   have HR:=zhd hr
   clear hr hsp hdd hd hKv hkf hra hfa hfl
   go_enter Tryz.func53,Tryz.ntmps53
   go_wp2_with fail
   go_ret
   exact⟨by rw[←HR.out];rfl,zhd ⟨known,HS.out.2.1,HS.out.2.2.1,HS.out.2.2.2.1,Keeps.refl _ _⟩⟩
  ·have hHV:=zh2 hv hKv
   obtain⟨op,a⟩:=c
   dsimp only at m0 m1
   have RE:=zhd (rests_any op a)
   generalize restsL ⟨op,a⟩=rs at*
   generalize followN ⟨op,a⟩ k=fl at*
   have HD:=zh4 hsp hdd hkf hd
   clear hd hsp hdd hkf hra hfa hv hKv hc
   go_enter Tryz.func53,Tryz.ntmps53
   go_wp2_with fail
   refine(RE.out _).mono ?_
   rintro e w1 ⟨rfl,hB1⟩
   have K1:Keeps (fun j=>j=kb) W w1:=(zkb hB1 (S:=fun _=>False)).mono (fun _ _ f=>f.elim)
   have s0:=(hB1.cell (p:=⟨kb,koff+k,none⟩) hkbl).trans s0
   have fz:∀o,w1.frozen? ⟨kb,o,none⟩=false:=fun o=>(HS.out.2.1.below hB1).frozen o
   have q0:=(hB1.cell (p:=⟨b,0,none⟩) hbl).trans q0
   have hbl1:b<w1.heap.size:=Nat.lt_of_lt_of_le hbl hB1.size
   have hkbl1:kb<w1.heap.size:=Nat.lt_of_lt_of_le hkbl hB1.size
   have H1:=zh2 hB1 K1
   clear hB1 K1 m0 m1 RE
   cases rs with
   |true=>
    have hr:=HD.out.1
    simp only[cond_true]at hr
    have KS:=(HS.out.2.2.2.1).set HD.out.2.2.2
    rw[hr]at KS
    have S7:=(HS.out.2.1.below H1.out.1).setOne hHV.out.1 (y:=1) (j:=0) (u:=.int .i64 1) (by decide) rfl
    rw[show koff+(k*sz Int+0)=koff+k from by simp[Cells.sz]]at S7
    have HR:=zh3 hr KS S7
    clear hr KS S7
    go_wp2_with fail
    go_ret
    refine⟨by rw[HR.out.1];rfl,zhd ⟨_,HR.out.2.2,by simpa using HS.out.2.2.1,HR.out.2.1,H1.out.2.trans (Keeps.setCell (S:=fun j=>j=kb) (p:=⟨kb,koff+k,none⟩) (Keeps.refl _ _) (.inl rfl) _) (fun j _ e=>e)⟩⟩
   |false=>
    have hr:=HD.out.1
    simp only[cond_false]at hr
    have hdx:=HD.out.2.1.resolve_left (by simp)
    have HR:=zh2 hr hdx
    clear hr hdx
    go_wp2_with fail
    refine(FO.out _ H1.out.2).mono ?_
    rintro e w5 ⟨fv,rfl,hfr,hff,hB5⟩
    obtain⟨fa,fc,rfl⟩:=hfr.slice
    obtain⟨tot,htot⟩:∃tot,fl.foldl (fun n x=>max n (spF code f x)) 0=tot:=⟨_,rfl⟩
    have K5:=H1.out.2.trans ((zkb hB5 (S:=fun _=>False)).mono (T:=fun j=>j=kb) (fun _ _ f=>f.elim)) (fun j _ e=>e)
    have HF:=zh5 hfr hff hB5 htot K5
    clear hfr hff hB5 htot FO K5
    go_wp2_with fail
    go_loopg [35,7] (fl.length) (fun gk v35 v7 wz=>SpRel W (.slice (some ⟨kb,koff,none⟩) n kc) kb n code f (.slice fa fl.length fc) fl tot gk v35 v7 wz)
    case atStart=>exact⟨0,0,known,rfl,rfl,Nat.zero_le _,rfl,Nat.zero_le _,HF.out.2.2.2.1,(HS.out.2.1.below H1.out.1).below HF.out.2.2.1,HS.out.2.2.1,HS.out.2.2.2.1,HF.out.2.2.2.2,HF.out.1⟩
    case round=>
     obtain⟨i,m,kn,rfl,rfl,hi,hgk,hm,htot,hK,hkl,hKN,hKp,hfr⟩:=hrel
     by_cases hin:i<fl.length
     ·obtain⟨y,hy⟩:=elem_at hin
      have hdr:fl.drop i=y::fl.drop (i+1):=by
       rw[List.drop_eq_getElem_cons (zge hy).1,(zge hy).2]
      rw[hdr,List.foldl_cons]at htot
      obtain⟨fg,foff,rfl,hfg⟩:=hfr.addr hy
      have z0:=row_nat hfr hy
      have hin':(i:Int)<fl.length:=by omega
      have hwi:IntKind.i64.wrap ((i:Int)+1)=(i:Int)+1:=IntWalk.i64_in _ (by omega)
      have hym:=zmg hy
      have q0:=(hKp.cell (p:=⟨b,0,none⟩) hbl hkb).trans QQ.out
      have hbr:b<wr.heap.size:=Nat.lt_of_lt_of_le hbl hKp.size
      have CS:=zhd (IH.out y wr kn (by omega) (HR.out.2 y hym) (HD.out.2.2.1 y hym) q0 hbr (HS.out.1.keep hKp (fun j hj e=>hF j hj e)) hK hkl hKN)
      have hle:=spF_le code f y
      generalize spF code f y=s at*
      have HY:=zh4 hgk htot hKp hfr
      clear hgk htot hKp hfr hdr hy hym hK hkl hKN
      go_wp2_with fail
      refine CS.out.mono ?_
      rintro e w7 ⟨rfl,H7⟩
      have hmx:max (m:Int) (s:Int)=((max m s:Nat):Int):=by omega
      have HM:=zhd hmx
      clear hmx
      go_wp2_with fail
      go_roundg (fl.length - (i+1))
      case measure=>have:=HY.out.1;omega
      case rel=>
       obtain⟨kn',h1,h2,h3,h4⟩:=H7.out
       exact⟨i+1,max m s,kn',by simp,by rw[←HM.out],by omega,rfl,by omega,HY.out.2.1,h1,h2,h3,HY.out.2.2.1.trans h4 (fun j _ e=>e),HY.out.2.2.2.keep h4 (fun j hj e=>by have:=HF.out.2.1 j hj;omega)⟩
     ·obtain rfl:i=fl.length:=by omega
      rw[List.drop_eq_nil_of_le (Nat.le_refl _),List.foldl_nil]at htot
      subst htot
      have hr:=HR.out.1
      rw[HF.out.2.2.2.1]at hr
      have KS:=hKN.set HD.out.2.2.2
      rw[hr]at KS
      obtain⟨v',hv'⟩:=elem_at (l:=kn) (k:=k) (by omega)
      have s0':=row_int hK hv'
      have fz':∀o,wr.frozen? ⟨kb,o,none⟩=false:=fun o=>hK.frozen o
      have hkbr:kb<wr.heap.size:=Nat.lt_of_lt_of_le hkbl hKp.size
      have S7:=hK.setOne hv' (y:=((m+1:Nat):Int)) (j:=0) (u:=.int .i64 ((m+1:Nat):Int)) (by decide) rfl
      rw[show koff+(k*sz Int+0)=koff+k from by simp[Cells.sz]]at S7
      have hwm:IntKind.i64.wrap ((m:Int)+1)=((m+1:Nat):Int):=by rw[IntWalk.i64_in _ (by omega)];omega
      obtain⟨p,hp⟩:∃p,((m+1:Nat):Int)=p:=⟨_,rfl⟩
      rw[hp]at S7 hwm KS
      have HY:=zh6 hr KS S7 hKp hkl hp
      clear hr KS S7 hKp hKN hkl hp hK hfr hgk hv'
      go_wp2_with fail
      go_ret
      refine⟨by rw[HY.out.1,HY.out.2.2.2.2.2];rfl,zhd ⟨_,HY.out.2.2.1,by simpa using HY.out.2.2.2.2.1,HY.out.2.1,HY.out.2.2.2.1.trans (Keeps.setCell (S:=fun j=>j=kb) (p:=⟨kb,koff+k,none⟩) (Keeps.refl _ _) (.inl rfl) _) (fun j _ e=>e)⟩⟩
end Go.Proofs.YtakljipkaoahnaaGreatDoor
namespace Go.Va
inductive Way (code:List In):Nat→Nat→Prop
 |one {p x:Nat}:restsAt code p=false→x∈followAt code p→Way code p x
 |more {p k x:Nat}:Way code p k→restsAt code k=false→x∈followAt code k→Way code p x
structure Rn (code:List In)(k0:Nat)(seen:List Bool)(todo:List Nat):Prop where
 td:∀k∈todo,k=k0∨seen[k]? =some true
 way:∀k,seen[k]? =some true→Way code k0 k∧restsAt code k=false
 ok:∀k,(k=k0∨seen[k]? =some true)→k∈todo∨∀x∈followAt code k,x≠k0∧(restsAt code x=true∨seen[x]? =some true)
theorem roundIn_law {code:List In}{k0 k:Nat}(hr:restsAt code k0=false)(hk:k=k0∨Way code k0 k)(hkr:restsAt code k=false):∀(l:List Nat) (seen:List Bool) (todo:List Nat),(∀x∈l,x∈followAt code k)→(∀x∈l,x<seen.length)→
  (∀j∈todo,j=k0∨seen[j]? =some true)→(∀j:Nat,seen[j]? =some true→Way code k0 j∧restsAt code j=false)→(∀j:Nat,(j=k0∨seen[j]? =some true)→j=k∨j∈todo∨∀x∈followAt code j,x≠k0∧(restsAt code x=true∨seen[x]? =some true))→
  match roundIn code k0 l seen todo with
  |none=>Way code k0 k0
  |some q=>q.1.length=seen.length∧(∀j∈q.2,j=k0∨q.1[j]? =some true)∧(∀j:Nat,q.1[j]? =some true→Way code k0 j∧restsAt code j=false)∧(∀j:Nat,(j=k0∨q.1[j]? =some true)→j=k∨j∈q.2∨∀x∈followAt code j,x≠k0∧(restsAt code x=true∨q.1[x]? =some true))∧(∀x∈l,x≠k0∧(restsAt code x=true∨q.1[x]? =some true))∧(∀j:Nat,seen[j]? =some true→q.1[j]? =some true)
 |[],seen,todo,_,_,h1,h2,h3=>⟨rfl,h1,h2,h3,(fun x hx=>by cases hx),fun _ h=>h⟩
 |x::r,seen,todo,hl,hn,h1,h2,h3=>by
  have hxf:=hl x (List.mem_cons_self ..)
  have hxn:=hn x (List.mem_cons_self ..)
  have hwx:Way code k0 x:=by
   rcases hk with rfl|hk
   ·exact .one hr hxf
   ·exact .more hk hkr hxf
  rw[roundIn]
  cases hx0:(x==k0)with
  |true=>
   simp only[cond_true]
   rw[beq_iff_eq]at hx0
   rw[←hx0]
   rw[hx0]at hwx⊢
   exact hwx
  |false=>
   simp only[cond_false]
   rw[beq_eq_false_iff_ne]at hx0
   cases hs:(!(seen.getD x false)&& !(restsAt code x))with
   |true=>
    simp only[cond_true]
    rw[Bool.and_eq_true,Bool.not_eq_true',Bool.not_eq_true']at hs
    have hset:∀j,(seen.set x true)[j]? =some true↔j=x∨seen[j]? =some true:=fun j=>by
     rw[List.getElem?_set]
     by_cases e:x=j
     ·subst e
      simp[hxn]
     ·rw[if_neg e]
      exact⟨.inr,fun h=>h.resolve_left (fun h=>e h.symm)⟩
    have:=roundIn_law hr hk hkr r (seen.set x true) (todo++[x]) (fun y hy=>hl y (List.mem_cons_of_mem _ hy)) (fun y hy=>by rw[List.length_set];exact hn y (List.mem_cons_of_mem _ hy))
     (fun j hj=>by
       simp only[List.mem_append,List.mem_singleton]at hj
       rcases hj with hj|rfl
       ·exact(h1 j hj).imp id (fun h=>(hset j).2 (.inr h))
       ·exact .inr ((hset j).2 (.inl rfl)))
     (fun j hj=>by
       rcases(hset j).1 hj with rfl|hj
       ·exact⟨hwx,hs.2⟩
       ·exact h2 j hj)
     (fun j hj=>by
       have hj2:j=x∨(j=k0∨seen[j]? =some true):=by
        rcases hj with hj|hj
        ·exact .inr (.inl hj)
        ·exact((hset j).1 hj).imp id .inr
       rcases hj2 with rfl|hj2
       ·exact .inr (.inl (by simp))
       ·rcases h3 j hj2 with h|h|h
        ·exact .inl h
        ·exact .inr (.inl (List.mem_append_left _ h))
        ·exact .inr (.inr (fun y hy=>⟨(h y hy).1,(h y hy).2.imp id (fun e=>(hset y).2 (.inr e))⟩)))
    revert this
    cases roundIn code k0 r (seen.set x true) (todo++[x])with
    |none=>exact id
    |some q=>
     rintro⟨g0,g1,g2,g3,g4,g5⟩
     refine⟨by rw[g0,List.length_set],g1,g2,g3,fun y hy=> ?_,fun j hj=>g5 j ((hset j).2 (.inr hj))⟩
     rcases List.mem_cons.1 hy with rfl|hy
     ·exact⟨hx0,.inr (g5 y ((hset y).2 (.inl rfl)))⟩
     ·exact g4 y hy
   |false=>
    simp only[cond_false]
    have:=roundIn_law hr hk hkr r seen todo (fun y hy=>hl y (List.mem_cons_of_mem _ hy)) (fun y hy=>hn y (List.mem_cons_of_mem _ hy)) h1 h2 h3
    revert this
    cases roundIn code k0 r seen todo with
    |none=>exact id
    |some q=>
     rintro⟨g0,g1,g2,g3,g4,g5⟩
     refine⟨g0,g1,g2,g3,fun y hy=> ?_,g5⟩
     rcases List.mem_cons.1 hy with rfl|hy
     ·refine⟨hx0,?_⟩
      cases hra:restsAt code y with
      |true=>exact .inl rfl
      |false=>
       rw[hra,Bool.not_false,Bool.and_true,Bool.not_eq_false']at hs
       rw[List.getD_eq_getElem?_getD]at hs
       refine .inr (g5 y ?_)
       rw[List.getElem?_eq_getElem hxn]at hs⊢
       simpa using hs
     ·exact g4 y hy
theorem roundIn_frees (code:List In)(k0:Nat):∀(l:List Nat) (seen:List Bool) (todo:List Nat) (q:List Bool×List Nat),(∀x∈l,x<seen.length)→roundIn code k0 l seen todo=some q→frees q.1+q.2.length≤frees seen+todo.length
 |[],seen,todo,q,_,h=>by
  rw[roundIn]at h
  cases h
  exact Nat.le_refl _
 |x::r,seen,todo,q,hl,h=>by
  rw[roundIn]at h
  cases hx:(x==k0)with
  |true=>rw[hx]at h;cases h
  |false=>
   rw[hx]at h
   simp only[cond_false]at h
   cases hs:(!(seen.getD x false)&& !(restsAt code x))with
   |false=>
    rw[hs]at h
    exact roundIn_frees code k0 r seen todo q (fun y hy=>hl y (List.mem_cons_of_mem _ hy)) h
   |true=>
    rw[hs]at h
    have:=roundIn_frees code k0 r _ _ q (fun y hy=>by rw[List.length_set];exact hl y (List.mem_cons_of_mem _ hy)) h
    simp only[List.length_append,List.length_singleton]at this
    rw[Bool.and_eq_true,Bool.not_eq_true']at hs
    rw[List.getD_eq_getElem?_getD]at hs
    have hxl:=hl x (List.mem_cons_self ..)
    have h3:seen[x]? =some false:=by
     rw[List.getElem?_eq_getElem hxl]at hs⊢
     simpa using hs.1
    have:=frees_set seen x h3
    omega
theorem roundF_law {code:List In}{k0:Nat}(hr:restsAt code k0=false)(hcl:∀k x,Way code k0 k∨k=k0→x∈followAt code k→x<code.length):∀(f:Nat) (seen:List Bool) (todo:List Nat),seen.length=code.length→frees seen+todo.length≤f→Rn code k0 seen todo→(roundF code k0 f seen todo=true↔Way code k0 k0)
 |f,seen,[],hn,hf,R=>by
  have hne:¬Way code k0 k0:=by
   have cl:∀k,Way code k0 k→k≠k0∧(restsAt code k=true∨seen[k]? =some true):=fun k h=>by
    generalize hp:k0=p at h
    induction h with
    |one h1 h2=>subst hp;exact(R.ok _ (.inl rfl)).resolve_left (by simp) _ h2
    |more h1 h2 h3 ih=>
     subst hp
     have hi:=ih
     have:=hi.2.resolve_left (by rw[h2];simp)
     exact(R.ok _ (.inr this)).resolve_left (by simp) _ h3
   exact fun h=>(cl k0 h).1 rfl
  have hf:roundF code k0 f seen []=false:=by cases f<;>rfl
  rw[hf]
  simp[hne]
 |0,seen,k::r,hn,hf,R=>by simp at hf
 |f+1,seen,k::r,hn,hf,R=>by
  rw[roundF]
  have hk:=R.td k (List.mem_cons_self ..)
  have hkw:k=k0∨Way code k0 k:=hk.imp id (fun h=>(R.way k h).1)
  have hkr:restsAt code k=false:=by
   rcases hk with rfl|h
   ·exact hr
   ·exact(R.way k h).2
  have L:=roundIn_law hr hkw hkr (followAt code k) seen r (fun x hx=>hx) (fun x hx=>by rw[hn];exact hcl k x (hkw.symm) hx) (fun j hj=>R.td j (List.mem_cons_of_mem _ hj)) R.way (fun j hj=>by
   rcases R.ok j hj with h|h
   ·rcases List.mem_cons.1 h with h|h
    ·exact .inl h
    ·exact .inr (.inl h)
   ·exact .inr (.inr h))
  have LF:=roundIn_frees code k0 (followAt code k) seen r
  revert L LF
  cases roundIn code k0 (followAt code k) seen r with
  |none=>exact fun L _=>by simp[L]
  |some q=>
   rintro⟨g0,g1,g2,g3,g4,g5⟩ LF
   refine roundF_law hr hcl f q.1 q.2 (g0.trans hn) ?_ ⟨g1,g2,fun j hj=> ?_⟩
   ·have:=LF q (fun x hx=>by rw[hn];exact hcl k x (hkw.symm) hx) rfl
    simp only[List.length_cons]at hf
    omega
   ·rcases g3 j hj with rfl|h|h
    ·exact .inr g4
    ·exact .inl h
    ·exact .inr h
theorem roundL_law {code:List In}{k0:Nat}(hcl:∀k x,Way code k0 k∨k=k0→x∈followAt code k→x<code.length):roundL code k0=true↔restsAt code k0=false∧Way code k0 k0:=by
 unfold roundL
 cases hr:restsAt code k0 with
 |true=>simp
 |false=>
  simp only[cond_false,true_and]
  refine roundF_law hr hcl _ _ _ (by simp) (by rw[frees_replicate];simp) ⟨fun k hk=>.inl (List.mem_singleton.1 hk),fun k hk=> ?_,fun k hk=> ?_⟩
  ·rw[List.getElem?_replicate]at hk
   split at hk<;>cases hk
  ·rcases hk with rfl|hk
   ·exact .inl (by simp)
   ·rw[List.getElem?_replicate]at hk
    split at hk<;>cases hk
theorem Way.rests {code:List In}{p k:Nat}(h:Way code p k):restsAt code p=false:=by
 induction h with
 |one h _=>exact h
 |more _ _ _ ih=>exact ih
theorem nodup_len:∀(n:Nat) (l:List Nat),l.Nodup→(∀x∈l,x<n)→l.length≤n
 |0,[],_,_=>Nat.le_refl _
 |0,x::_,_,h=>by have:=h x (List.mem_cons_self ..);omega
 |n+1,l,hd,h=>by
  have h1:=nodup_len n (l.erase n) (hd.erase n) (fun x hx=>by
   have:=(hd.mem_erase_iff).1 hx
   have:=h x this.2
   omega)
  by_cases hm:n∈l
  ·rw[List.length_erase_of_mem hm]at h1
   omega
  ·rw[List.erase_of_not_mem hm]at h1
   omega
theorem dn_of_rounds {code:List In}{Rc:Nat→Prop}(hcl:∀k,Rc k→k<code.length∧∀x∈followAt code k,Rc x)(hno:∀k,Rc k→¬Way code k k):∀(f k:Nat) (P:List Nat),Rc k→P.Nodup→(∀p∈P,p<code.length∧Way code p k)→code.length+1≤P.length+f→dnF code f k
 |0,k,P,_,hd,hP,hl=>by
  have:=nodup_len _ P hd (fun p hp=>(hP p hp).1)
  omega
 |f+1,k,P,hk,hd,hP,hl=>by
  rw[dnF]
  cases hr:restsAt code k with
  |true=>exact .inl rfl
  |false=>
   refine .inr (fun x hx=>dn_of_rounds hcl hno f x (k::P) ((hcl k hk).2 x hx) (List.nodup_cons.2 ⟨fun h=>hno k hk (hP k h).2,hd⟩) (fun p hp=> ?_) (by simp only[List.length_cons];omega))
   rcases List.mem_cons.1 hp with rfl|hp
   ·exact⟨(hcl _ hk).1,.one hr hx⟩
   ·exact⟨(hP p hp).1,.more (hP p hp).2 hr hx⟩
theorem dn_all {code:List In}{Rc:Nat→Prop}(hcl:∀k,Rc k→k<code.length∧∀x∈followAt code k,Rc x)(hno:∀k,Rc k→roundL code k=false){k:Nat}(hk:Rc k):dnF code (code.length+1) k:=by
 have hway:∀{a k},Rc a→Way code a k→Rc k:=fun{a k} ha h=>by
  induction h with
  |one _ h2=>exact(hcl _ ha).2 _ h2
  |more _ _ h3 ih=>exact(hcl _ ih).2 _ h3
 refine dn_of_rounds hcl (fun j hj hw=> ?_) _ k [] hk List.nodup_nil (fun p hp=>by cases hp) (by simp)
 have:=(roundL_law (fun k x h hx=>by
  have hk:Rc k:=h.elim (fun h=>hway hj h) (fun h=>by rw[h];exact hj)
  exact(hcl _ ((hcl _ hk).2 _ hx)).1)).2 ⟨hw.rests,hw⟩
 rw[hno j hj]at this
 cases this
def DoneAt (code:List In)(hs:List Int)(most:Int)(k:Nat)(h:Int):Prop:=
 ∃c,code[k]? =some c∧0≤h - takesL c∧h - takesL c+(ofL c.op).1.o≤32∧h - takesL c+(ofL c.op).1.o≤most∧∀x∈followN c k,x<code.length∧hs[x]? =some (h - takesL c+(ofL c.op).1.o)
structure Gr (st st':KSt):Prop where
 keep:∀(j:Nat) (y:Int),st.heights[j]? =some y→0≤y→st'.heights[j]? =some y
 most:st.most≤st'.most
 len:st'.heights.length=st.heights.length
 td:∀j∈st.todo,j∈st'.todo
 new:∀(j:Nat) (y:Int),st'.heights[j]? =some y→0≤y→st.heights[j]? =some y∨j∈st'.todo
theorem Gr.refl (st:KSt):Gr st st:=⟨fun _ _ h _=>h,Int.le_refl _,rfl,fun _ h=>h,fun _ _ h _=>.inl h⟩
theorem Gr.trans {a b c:KSt}(h:Gr a b)(g:Gr b c):Gr a c:=
 ⟨fun j y e l=>g.keep j y (h.keep j y e l) l,Int.le_trans h.most g.most,g.len.trans h.len,fun j hj=>g.td j (h.td j hj),fun j y e l=>by
   rcases g.new j y e l with e2|e2
   ·rcases h.new j y e2 l with e3|e3
    ·exact .inl e3
    ·exact .inr (g.td j e3)
   ·exact .inr e2⟩
theorem DoneAt.grow {code:List In}{st st':KSt}(OK:CodeOk code)(g:Gr st st'){k:Nat}{h:Int}(d:DoneAt code st.heights st.most k h):DoneAt code st'.heights st'.most k h:=by
 obtain⟨c,h1,h2,h3,h4,h5⟩:=d
 have ho:=(OK.o c (zmg h1)).1
 exact⟨c,h1,h2,h3,Int.le_trans h4 g.most,fun x hx=>⟨(h5 x hx).1,g.keep x _ (h5 x hx).2 (by omega)⟩⟩
theorem comeL_gr {n k:Nat}{h:Int}{st:KSt}(hn:st.heights.length=n)(h0:0≤h):Gr st (comeL n k h st).2∧((comeL n k h st).1=0→k<n∧(comeL n k h st).2.heights[k]? =some h)∧((comeL n k h st).1=0∨(comeL n k h st).1=131∨(comeL n k h st).1=132):=by
 unfold comeL
 by_cases hk:n≤k
 ·rw[decide_eq_true hk]
  simp only[cond_true]
  exact⟨Gr.refl _,fun e=>by simp at e,by simp⟩
 ·rw[decide_eq_false hk]
  simp only[cond_false]
  obtain⟨x,hx⟩:∃x,st.heights[k]? =some x:=⟨st.heights[k]'(by omega),by simp⟩
  rw[List.getD_eq_getElem?_getD,hx,Option.getD_some]
  by_cases hl:x<0
  ·rw[decide_eq_true hl]
   simp only[cond_true]
   have hs:(st.heights.set k h)[k]? =some h:=List.getElem?_set_self (by omega)
   refine⟨⟨fun j y e l=> ?_,Int.le_refl _,by simp,fun j hj=>List.mem_append_left _ hj,fun j y e l=> ?_⟩,fun _=>⟨by omega,hs⟩,by simp⟩
   ·show(st.heights.set k h)[j]? =some y
    rw[List.getElem?_set_ne]
    ·exact e
    ·intro e2
     subst e2
     rw[hx]at e
     cases e
     omega
   ·by_cases e2:k=j
    ·subst e2
     exact .inr (by simp)
    ·left
     have e:(st.heights.set k h)[j]? =some y:=e
     rwa[List.getElem?_set_ne e2]at e
  ·rw[decide_eq_false hl]
   simp only[cond_false]
   cases hxh:(x !=h)with
   |true=>exact⟨Gr.refl _,fun e=>by simp at e,by simp⟩
   |false=>
    have:x=h:=by simpa using hxh
    subst this
    exact⟨Gr.refl _,fun _=>⟨by omega,hx⟩,by simp⟩
theorem comesL_gr {n:Nat}{h:Int}(h0:0≤h):∀(l:List Nat) {st:KSt},st.heights.length=n→Gr st (comesL n h l st).2∧((comesL n h l st).1=0→∀x∈l,x<n∧(comesL n h l st).2.heights[x]? =some h)∧((comesL n h l st).1=0∨(comesL n h l st).1=131∨(comesL n h l st).1=132)
 |[],st,_=>⟨Gr.refl _,(fun _ x hx=>by cases hx),.inl rfl⟩
 |x::r,st,hn=>by
  obtain⟨g,hg,hc⟩:=comeL_gr (k:=x) hn h0
  rw[comesL]
  cases hz:((comeL n x h st).1 !=0)with
  |true=>
   simp only[cond_true]
   exact⟨g,fun e=>by rw[e]at hz;simp at hz,hc⟩
  |false=>
   simp only[cond_false]
   have hz0:(comeL n x h st).1=0:=by simpa using hz
   obtain⟨g2,hg2,hc2⟩:=comesL_gr h0 r (st:=(comeL n x h st).2) (g.len.trans hn)
   refine⟨g.trans g2,fun e y hy=> ?_,hc2⟩
   rcases List.mem_cons.1 hy with rfl|hy
   ·exact⟨(hg hz0).1,g2.keep _ _ (hg hz0).2 h0⟩
   ·exact hg2 e y hy
theorem stepL_gr {code:List In}{c:In}{k:Nat}{h:Int}{st:KSt}(OK:CodeOk code)(hc:code[k]? =some c)(hn:st.heights.length=code.length)(hh:st.heights[k]? =some h):
  Gr st (stepL code.length c k st).2∧((stepL code.length c k st).1=0→DoneAt code (stepL code.length c k st).2.heights (stepL code.length c k st).2.most k h)∧((stepL code.length c k st).1=0∨(stepL code.length c k st).1=131∨(stepL code.length c k st).1=132):=by
 have ho:=(OK.o c (zmg hc)).1
 unfold stepL
 rw[List.getD_eq_getElem?_getD,hh,Option.getD_some]
 by_cases h1:h - takesL c<0
 ·rw[decide_eq_true h1]
  exact⟨Gr.refl _,fun e=>by simp at e,by simp⟩
 ·rw[decide_eq_false h1]
  simp only[cond_false]
  by_cases h2:32<h - takesL c+(ofL c.op).1.o
  ·rw[decide_eq_true h2]
   exact⟨Gr.refl _,fun e=>by simp at e,by simp⟩
  ·rw[decide_eq_false h2]
   simp only[cond_false]
   obtain⟨m,hm⟩:∃m,h - takesL c+(ofL c.op).1.o=m:=⟨_,rfl⟩
   rw[hm]at h2⊢
   have g0:Gr st {st with most:=max st.most m}:=⟨fun _ _ h _=>h,by show st.most≤max st.most m;omega,rfl,fun _ h=>h,fun _ _ h _=>.inl h⟩
   obtain⟨g,hg,hcc⟩:=comesL_gr (n:=code.length) (h:=m) (by omega) (followN c k) (st:={st with most:=max st.most m}) hn
   refine⟨g0.trans g,fun e=>⟨c,hc,by omega,by omega,?_,?_⟩,hcc⟩
   ·rw[hm]
    have:=g.most
    have:max st.most m≤_:=this
    omega
   ·rw[hm]
    exact hg e
theorem bfsL_law {code:List In}(OK:CodeOk code):∀(f:Nat) (st:KSt),Inv code.length f st→(∀(k:Nat) (h:Int),st.heights[k]? =some h→0≤h→k∈st.todo∨DoneAt code st.heights st.most k h)→
  ((bfsL code f st).1.2=0→(bfsL code f st).1.1= -1∧(∀(k:Nat) (h:Int),(bfsL code f st).2.heights[k]? =some h→0≤h→DoneAt code (bfsL code f st).2.heights (bfsL code f st).2.most k h)∧(∀(j:Nat) (y:Int),st.heights[j]? =some y→0≤y→(bfsL code f st).2.heights[j]? =some y)∧Inv code.length code.length (bfsL code f st).2)
 |0,st,I,D=>by
  have ht:st.todo=[]:=by
   have:=I.less
   exact List.eq_nil_of_length_eq_zero (by omega)
  rw[bfsL]
  refine fun _=>⟨rfl,fun k h e l=> ?_,fun _ _ h _=>h,⟨I.len,I.all,I.todo,by have:=I.less;show negs st.heights+st.todo.length≤_;omega,I.m0,I.m1⟩⟩
  have:=D k h e l
  rw[ht]at this
  exact this.resolve_left (by simp)
 |f+1,st,I,D=>by
  rw[bfsL]
  cases ht:st.todo with
  |nil=>
   refine fun _=>⟨rfl,fun k h e l=> ?_,fun _ _ h _=>h,⟨I.len,I.all,I.todo,?_,I.m0,I.m1⟩⟩
   ·have:=D k h e l
    rw[ht]at this
    exact this.resolve_left (by simp)
   ·have:∀l:List Int,negs l≤l.length:=fun l=>by
     induction l with
     |nil=>exact Nat.le_refl _
     |cons x r ih=>rw[negs,List.length_cons];cases decide (x<0)<;>simp<;>omega
    have:=this st.heights
    have:=I.len
    rw[ht]
    simp only[List.length_nil]
    omega
  |cons k r=>
   obtain⟨h,hh,h0⟩:=I.todo k (by rw[ht];exact List.mem_cons_self ..)
   have hkl:k<code.length:=by have:=(zge hh).1;have:=I.len;omega
   have hc:code[k]? =some code[k]:=List.getElem?_eq_getElem hkl
   generalize code[k]=c at hc
   dsimp only
   rw[hc]
   dsimp only
   have ho:=OK.o c (zmg hc)
   obtain⟨g,hd,hcc⟩:=stepL_gr (c:=c) (st:={st with todo:=r}) OK hc I.len hh
   have I3:Inv code.length f (stepL code.length c k {st with todo:=r}).2:=stepL_inv (k:=k) (c:=c) (f:=f) ⟨I.len,I.all,fun j hj=>I.todo j (by rw[ht];exact List.mem_cons_of_mem _ hj),by have:=I.less;rw[ht]at this;simp only[List.length_cons]at this;show negs st.heights+r.length≤f;omega,I.m0,I.m1⟩ ho.1
   cases hz:((stepL code.length c k {st with todo:=r}).1 !=0)with
   |true=>
    simp only[cond_true]
    exact fun e=>by rw[e]at hz;simp at hz
   |false=>
    simp only[cond_false]
    have hz0:(stepL code.length c k {st with todo:=r}).1=0:=by simpa using hz
    intro e
    obtain⟨b1,b2,b3,b4⟩:=bfsL_law OK f _ I3 (fun j y e l=>by
     rcases g.new j y e l with e2|e2
     ·by_cases hjk:j=k
      ·subst hjk
       rw[hh]at e2
       cases e2
       exact .inr (hd hz0)
      ·rcases D j y e2 l with e3|e3
       ·rw[ht]at e3
        rcases List.mem_cons.1 e3 with e4|e4
        ·exact absurd e4 hjk
        ·exact .inl (g.td j e4)
       ·exact .inr (DoneAt.grow OK (st:={st with todo:=r}) g e3)
     ·exact .inl e2) e
    exact⟨b1,b2,fun j y e l=>b3 j y (g.keep j y e l) l,b4⟩
structure Walked (code:List In)(st:KSt):Prop where
 inv:Inv code.length code.length st
 zero:st.heights[0]? =some 0
 done:∀(k:Nat) (h:Int),st.heights[k]? =some h→0≤h→DoneAt code st.heights st.most k h
theorem walkL_law {code:List In}(OK:CodeOk code)(h:(walkL code).1.2=0):(walkL code).1.1= -1∧Walked code (walkL code).2:=by
 unfold walkL at h⊢
 dsimp only at h⊢
 have I:=comeL_inv (n:=code.length) (f:=code.length) (k:=0) (h:=0) (st:=⟨List.replicate code.length (-1),[],0⟩) ⟨by simp,(fun x hx=>by rw[(List.mem_replicate.1 hx).2];omega),(fun k hk=>by cases hk),(by rw[negs_replicate];simp),Int.le_refl 0,(by show(0:Int)≤32;decide)⟩ (by decide) (by decide)
 obtain⟨g,hg,hc⟩:=comeL_gr (n:=code.length) (k:=0) (h:=0) (st:=⟨List.replicate code.length (-1),[],0⟩) (by simp) (by decide)
 generalize comeL code.length 0 0 ⟨List.replicate code.length (-1),[],0⟩=q at*
 cases hz:(q.1 !=0)with
 |true=>
  rw[hz]at h
  simp only[cond_true]at h
  rw[h]at hz
  simp at hz
 |false=>
  rw[hz]at h
  simp only[cond_false]at h⊢
  have hz0:q.1=0:=by simpa using hz
  obtain⟨b1,b2,b3,b4⟩:=bfsL_law OK (code.length+1) q.2 ⟨I.len,I.all,I.todo,by have:=I.less;omega,I.m0,I.m1⟩ (fun k y e l=>by
   rcases g.new k y e l with e2|e2
   ·simp only[List.getElem?_replicate]at e2
    split at e2
    ·cases e2
     omega
    ·cases e2
   ·exact .inl e2) h
  exact⟨b1,b4,b3 0 0 (hg hz0).2 (Int.le_refl _),b2⟩
theorem Walked.closed {code:List In}{st:KSt}(w:Walked code st)(OK:CodeOk code):∀k,(∃h,st.heights[k]? =some h∧0≤h)→k<code.length∧∀x∈followAt code k,∃h,st.heights[x]? =some h∧0≤h:=by
 rintro k ⟨h,hh,h0⟩
 obtain⟨c,h1,h2,h3,h4,h5⟩:=w.done k h hh h0
 have ho:=(OK.o c (zmg h1)).1
 refine⟨(zge h1).1,fun x hx=> ?_⟩
 unfold followAt at hx
 rw[h1]at hx
 exact⟨_,(h5 x hx).2,by omega⟩
def firstR (code:List In):Nat→List Int→Option Nat
 |_,[]=>none
 |k,h::r=>bif decide (0≤h)&&roundL code k then some k else firstR code (k+1) r
theorem firstR_none {code:List In}:∀(l:List Int) (k:Nat),firstR code k l=none→∀(j:Nat) (h:Int),l[j]? =some h→0≤h→roundL code (k+j)=false
 |[],_,_,j,h,hj,_=>by simp at hj
 |y::r,k,hn,j,h,hj,h0=>by
  rw[firstR]at hn
  cases hc:(decide (0≤y)&&roundL code k)with
  |true=>rw[hc]at hn;cases hn
  |false=>
   rw[hc]at hn
   cases j with
   |zero=>
    simp at hj
    subst hj
    rw[decide_eq_true h0]at hc
    simpa using hc
   |succ j=>
    have:=firstR_none r (k+1) hn j h (by simpa using hj) h0
    rwa[show k+1+j=k+(j+1) by omega]at this
def spanM (code:List In):Nat→List Int→Nat→Nat
 |_,[],m=>m
 |k,h::r,m=>spanM code (k+1) r (bif decide (0≤h)then max m (spF code (code.length+1) k)else m)
structure Fa where
 heights:List Int
 most:Int
 span:Int
def noFa:Fa:=⟨[],0,0⟩
theorem inf_bounds (op:Int):0≤(ofL op).1.i∧(ofL op).1.i≤2∧0≤(ofL op).1.o∧(ofL op).1.o≤2:=by
 by_cases h:0≤op∧op≤32
 ·obtain⟨k,rfl⟩:∃k:Nat,op=k:=⟨op.toNat,by omega⟩
  have H:∀k:Fin 33,0≤(ofL (k.1:Int)).1.i∧(ofL (k.1:Int)).1.i≤2∧0≤(ofL (k.1:Int)).1.o∧(ofL (k.1:Int)).1.o≤2:=by decide+kernel
  exact H ⟨k,by omega⟩
 ·have e:∀j:Int,0≤j→j≤32→(op==j)=false:=fun j h1 h2=>by rw[beq_eq_false_iff_ne];omega
  simp only[ofL,waitsL,e 0 (by decide) (by decide),e 1 (by decide) (by decide),e 2 (by decide) (by decide),e 3 (by decide) (by decide),e 4 (by decide) (by decide),e 5 (by decide) (by decide),e 6 (by decide) (by decide),e 7 (by decide) (by decide),e 8 (by decide) (by decide),e 9 (by decide) (by decide),e 10 (by decide) (by decide),e 11 (by decide) (by decide),e 12 (by decide) (by decide),e 13 (by decide) (by decide),e 14 (by decide) (by decide),e 15 (by decide) (by decide),e 16 (by decide) (by decide),e 17 (by decide) (by decide),e 18 (by decide) (by decide),e 19 (by decide) (by decide),e 20 (by decide) (by decide),e 21 (by decide) (by decide),e 22 (by decide) (by decide),e 23 (by decide) (by decide),e 24 (by decide) (by decide),e 25 (by decide) (by decide),e 26 (by decide) (by decide),e 27 (by decide) (by decide),e 28 (by decide) (by decide),e 29 (by decide) (by decide),e 30 (by decide) (by decide),e 31 (by decide) (by decide),e 32 (by decide) (by decide),cond_false]
  decide
end Go.Va
namespace Go.Proofs.YtakljipkaoahnaaGreatDoor
open Go.RowKit Go.Own Go.Own.MapTy Go.Va Go.Sort
open Go.Own.Cells (sz enc)
def checkG (p:Img):Fa×Int×Int:=
 bif imgL p !=0 then(noFa,-1,imgL p)else
 bif (walkL p.code).1.2 !=0 then(noFa,(walkL p.code).1)else
 match firstR p.code 0 (walkL p.code).2.heights with
 |some k=>(noFa,(k:Int),133)
 |none=>(⟨(walkL p.code).2.heights,(walkL p.code).2.most,(spanM p.code 0 (walkL p.code).2.heights 0:Nat)⟩,-1,0)
theorem pack_op {op:Int}(h:(op==29)=true):(ofL op).1.operand=5:=by
 rw[beq_iff_eq]at h
 subst h
 rfl
theorem codeOk_of {p:Img}(h:imgL p=0):CodeOk p.code:=by
 obtain⟨h0,h1,h2,h3,h4,h5,_,_,h6⟩:=imgL_ok h
 refine⟨h1,fun c hc=>(h6 c hc).2.1,fun c hc=> ?_,fun c hc=>⟨(inf_bounds c.op).2.2.1,(inf_bounds c.op).2.2.2⟩⟩
 have hb:=inf_bounds c.op
 obtain⟨_,ha,hm⟩:=h6 c hc
 unfold takesL
 cases h29:(c.op==29)with
 |false=>simp only[cond_false];omega
 |true=>
  rw[pack_op h29]at hm
  have:mostL p 5=17:=rfl
  simp only[cond_true]
  omega
end Go.Proofs.YtakljipkaoahnaaGreatDoor
namespace Go.Own
open Go.RowKit
theorem run_make_ints {P:Program}{t e:TypeId}{i:TypeInfo}(ht:P.underlying t=some (.slice e))(hi:P.info? e=some i)(hz:i.zero=some (.int .i64 0))(hs:i.size=1)(hb:i.bytes=8)(n:Nat)(hn:n≤17592186044416):
  ∃cs:Array Value,(∀W:World,(Instr.makeSlice t (.int .i64 n) (.int .i64 n)).run P W= .ok (.slice (some ⟨W.heap.size,0,none⟩) n n) (W.alloc (.cells cs e)))∧cs.toList=(List.replicate n (0:Int)).flatMap Cells.enc:=by
 refine⟨madeCells (Value.int .i64 0).cells (n*i.size),fun W=> ?_,?_⟩
 ·have:=run_make (P:=P) W t e i (.int .i64 0) ht hi hz .i64 .i64 n n (by omega) (by omega) (by rw[hb];omega) (by omega)
  simpa using this
 ·rw[flat_int,hs]
  simp only[Nat.mul_one,Value.cells,List.map_replicate]
  exact toList_madeCells_one _ _
end Go.Own
namespace Go.Proofs.YtakljipkaoahnaaGreatDoor
open Go.RowKit Go.Own Go.Own.MapTy Go.Va Go.Sort
open Go.Own.Cells (sz enc)
theorem infoInt:(Tryz.prog.info? 3).map (fun i=>(i.zero,i.size,i.bytes))=some (some (.int .i64 0),1,8):=by kernel_rfl
def ChPost (W:World)(r:Fa×Int×Int)(e:Ending)(w':World):Prop:=
 ∃v:Value,e= .returned (.tuple #[.agg #[v,.int .i64 r.1.most,.int .i64 r.1.span],.agg #[.int .i64 r.2.1,.int .i64 r.2.2]])∧Hid (RowAt w' 3 v r.1.heights∧(∀g,v.ownBlock=some g→W.heap.size≤g)∧Below W.heap.size W w')
theorem five_keeps (w':World)(b1 b2 o1 o2 o3 o5 o6:Nat)(v1 v2 v3 v5 v6:Value):
  Keeps (fun j=>j=b1∨j=b2) w' (((((w'.setCell ⟨b1,o1,none⟩ v1).setCell ⟨b1,o2,none⟩ v2).setCell ⟨b1,o3,none⟩ v3).setCell ⟨b2,o5,none⟩ v5).setCell ⟨b2,o6,none⟩ v6):=by
 have k0:Keeps (fun j=>j=b1∨j=b2) w' w':=Keeps.refl _ _
 have k1:=Keeps.setCell (p:=⟨b1,o1,none⟩) k0 (.inl (.inl rfl)) v1
 have k2:=Keeps.setCell (p:=⟨b1,o2,none⟩) k1 (.inl (.inl rfl)) v2
 have k3:=Keeps.setCell (p:=⟨b1,o3,none⟩) k2 (.inl (.inl rfl)) v3
 have k5:=Keeps.setCell (p:=⟨b2,o5,none⟩) k3 (.inl (.inr rfl)) v5
 exact Keeps.setCell (p:=⟨b2,o6,none⟩) k5 (.inl (.inr rfl)) v6
structure Res (W w1:World):Prop where
 c0:w1.cell? ⟨W.heap.size+1,0,none⟩=some (.slice none 0 0)
 c1:w1.cell? ⟨W.heap.size+1,1,none⟩=some (.int .i64 0)
 c2:w1.cell? ⟨W.heap.size+1,2,none⟩=some (.int .i64 0)
 c3:w1.cell? ⟨W.heap.size+1+1,0,none⟩=some (.int .i64 0)
 c4:w1.cell? ⟨W.heap.size+1+1,1,none⟩=some (.int .i64 0)
 f0:∀o,w1.frozen? ⟨W.heap.size+1,o,none⟩=false
 f1:∀o,w1.frozen? ⟨W.heap.size+1+1,o,none⟩=false
 l:W.heap.size+1+1<w1.heap.size
theorem Res.keep {S:Nat→Prop}{W w1 w2:World}(R:Res W w1)(K:Keeps S w1 w2)(h1:¬S (W.heap.size+1))(h2:¬S (W.heap.size+1+1)):Res W w2:=by
 have l:=R.l
 have l1:W.heap.size+1<w1.heap.size:=by omega
 exact⟨(K.cell (p:=⟨W.heap.size+1,0,none⟩) l1 h1).trans R.c0,(K.cell (p:=⟨W.heap.size+1,1,none⟩) l1 h1).trans R.c1,(K.cell (p:=⟨W.heap.size+1,2,none⟩) l1 h1).trans R.c2,(K.cell (p:=⟨W.heap.size+1+1,0,none⟩) l h2).trans R.c3,(K.cell (p:=⟨W.heap.size+1+1,1,none⟩) l h2).trans R.c4,fun o=>(K.frozen (p:=⟨W.heap.size+1,o,none⟩) l1 h1).trans (R.f0 o),fun o=>(K.frozen (p:=⟨W.heap.size+1+1,o,none⟩) l h2).trans (R.f1 o),Nat.lt_of_lt_of_le l K.size⟩
def SLRel (W9:World)(fb kb2 n:Nat)(code:List In)(hv:Value)(mo:Int)(hs:List Int)(gk:Nat)(v72:Value)(wz:World):Prop:=
 ∃(i m:Nat) (known:List Int),v72= .int .i64 i∧i≤hs.length∧gk=hs.length - i∧m≤600∧spanM code i (hs.drop i) m=spanM code 0 hs 0∧wz.heap[fb]? =some (.cells #[hv,.int .i64 mo,.int .i64 m] 51 (0,0))∧RowAt wz 3 (.slice (some ⟨kb2,0,none⟩) n n) known∧known.length=n∧KN code known∧Keeps (fun j=>j=fb∨j=kb2) W9 wz
theorem KN.zero (code:List In)(n:Nat):KN code (List.replicate n 0):=fun i v h=>by
 rw[List.getElem?_replicate]at h
 split at h
 ·cases h
  exact⟨Int.le_refl _,fun h=>absurd h (by decide)⟩
 ·cases h
theorem set_fact {w:World}{fb:Nat}{hv:Value}{mo m:Int}{T:TypeId}(h:w.heap[fb]? =some (.cells #[hv,.int .i64 mo,.int .i64 m] T (0,0)))(k:Int):(w.setCell ⟨fb,2,none⟩ (.int .i64 k)).heap[fb]? =some (.cells #[hv,.int .i64 mo,.int .i64 k] T (0,0)):=by
 simp[World.setCell,Array.getElem?_modify,h]
theorem vcheck_any (F:Nat→Prop)(i:IC)(p:Img)(W:World)(H:IAt F W i p)(hw:∀x∈p.consts,x.wf)(r:Fa×Int×Int)(hr:checkG p=r):
  Calls Tryz.prog 18 #[.agg #[.slice i.ca i.cn i.cc,.slice i.ka i.kn i.kc,.slice i.na i.nn i.nc,.int .i64 i.pl]] W (ChPost W r):=by
 have HI:=zhd (H.mono (G:=fun j=>j<W.heap.size) (fun g _ hl=>hl))
 have hlen:=H.lens.1
 unfold checkG at hr
 have hok:= @codeOk_of p
 have IC2:=zhd (fun W' (K:Below W.heap.size W W')=>imgcheck_any F W' i p (H.keep (S:=fun _=>False) (zkb K) (fun _ _ f=>f)) _ hw rfl)
 generalize imgL p=ie at*
 obtain⟨ca,cn,cc,ka,kn,kc,na,nn,nc,pl⟩:=i
 dsimp only at hlen IC2 HI
 dsimp only
 clear H
 have HR:=zh3 hr hok hlen
 clear hr hok hlen
 go_enter Tryz.func18,Tryz.ntmps18
 go_wp2_with fail
 obtain⟨W3,hW3⟩:∃W3,W3=((W.alloc (.cells #[.slice ca cn cc,.slice ka kn kc,.slice na nn nc,.int .i64 pl] 27)).alloc (.cells #[.slice none 0 0,.int .i64 0,.int .i64 0] 51)).alloc (.cells #[.int .i64 0,.int .i64 0] 53):=⟨_,rfl⟩
 have B3:Below W.heap.size W W3:=by rw[hW3];exact((zal).alloc (by simp) _).alloc (by simp;omega) _
 have b0:W3.heap[W.heap.size]? =some (.cells #[.slice ca cn cc,.slice ka kn kc,.slice na nn nc,.int .i64 pl] 27 (0,0)):=by
  rw[hW3]
  exact(Below.heap_alloc _ _ _ (by simp;omega)).trans ((Below.heap_alloc _ _ _ (by simp)).trans (heap_alloc_new W _))
 have b1:W3.heap[W.heap.size+1]? =some (.cells #[.slice none 0 0,.int .i64 0,.int .i64 0] 51 (0,0)):=by
  rw[hW3]
  exact(Below.heap_alloc _ _ _ (by simp)).trans heap_new2
 have b2:W3.heap[W.heap.size+1+1]? =some (.cells #[.int .i64 0,.int .i64 0] 53 (0,0)):=by
  rw[hW3]
  have:=heap_alloc_new ((W.alloc (.cells #[.slice ca cn cc,.slice ka kn kc,.slice na nn nc,.int .i64 pl] 27)).alloc (.cells #[.slice none 0 0,.int .i64 0,.int .i64 0] 51)) (.cells #[.int .i64 0,.int .i64 0] 53)
  simpa using this
 have hsz3:W3.heap.size=W.heap.size+3:=by rw[hW3];simp
 have R3:Res W W3:=⟨by rw[zch b1];rfl,by rw[zch b1];rfl,by rw[zch b1];rfl,by rw[zch b2];rfl,by rw[zch b2];rfl,fun o=>zfr b1 o,fun o=>zfr b2 o,by omega⟩
 rw[←hW3]
 have H3:=zh4 B3 R3 b0 hsz3
 clear hW3 B3 R3 b0 b1 b2 hsz3
 refine(IC2.out _ H3.out.1).mono ?_
 rintro e w4 ⟨rfl,hB4⟩
 have RS4:=H3.out.2.1.keep (zkb hB4 (S:=fun _=>False)) (fun f=>f) (fun f=>f)
 have B4:=H3.out.1.trans (hB4.mono H3.out.1.size)
 have b0:=(hB4.block W.heap.size (by have:=H3.out.2.2.2;omega)).trans H3.out.2.2.1
 have H4:=zh4 hB4 RS4 B4 b0
 have q0:=zca b0 0 rfl
 have l0:W.heap.size<w4.heap.size:=zlt b0
 clear hB4 RS4 B4 b0 IC2
 cases hz:(ie !=0)with
 |true=>
  have hr:=HR.out.1
  rw[hz]at hr
  simp only[cond_true]at hr
  subst hr
  obtain⟨c0,c1,c2,c3,c4,f0,f1,l2⟩:=H4.out.2.1
  have l1:W.heap.size+1<w4.heap.size:=by omega
  have BB:=zhd (H4.out.2.2.1.trans ((five_keeps w4 (W.heap.size+1) (W.heap.size+1+1) 0 1 2 0 1 (.slice none 0 0) (.int .i64 0) (.int .i64 0) (.int .i64 (-1)) (.int .i64 ie)).below (by omega) (fun j hj e=>by omega)))
  go_wp2_with fail
  exact bodyPost_ret (v:=.tuple #[.agg #[.slice none 0 0,.int .i64 0,.int .i64 0],.agg #[.int .i64 (-1),.int .i64 ie]]) (by simp only[results,Tryz.results18];go_simp) rfl ⟨.slice none 0 0,rfl,zhd ⟨RowAt.nil _ _,(fun g h=>by cases h),BB.out⟩⟩
 |false=>
  have hr:=HR.out.1
  rw[hz]at hr
  simp only[cond_false]at hr
  have OK:=HR.out.2.1 (by simpa using hz)
  have HOK:=zhd OK
  have HR2:=zhd hr
  clear hr OK
  go_wp2_with fail
  obtain⟨W5,hW5⟩:∃W5,W5=w4.alloc (.cells #[.slice ca cn cc,.slice none 0 0,.slice none 0 0,.int .i64 0] 112):=⟨_,rfl⟩
  have hkb:=zha hW5
  have B5:=zba hW5
  have KX5:KX W5 w4.heap.size (.slice ca cn cc) ⟨.slice none 0 0,.slice none 0 0⟩ ⟨[],[],0⟩:=⟨hkb,RowAt.nil _ _,RowAt.nil _ _,(fun j h=>by cases h),(fun j h=>by cases h),fun j h=>by
   rcases h with h|h|h
   ·omega
   ·cases h
   ·cases h⟩
  rw[←hW5]
  have HC5:=(HI.out.keep (S:=fun _=>False) (zkb (H4.out.2.2.1.trans (B5.mono (Nat.le_of_lt l0)))) (fun _ _ f=>f)).code
  obtain⟨q,hq⟩:∃q,walkL p.code=q:=⟨_,rfl⟩
  have WK:=zhd (kwalk_any w4.heap.size _ (fun j hj=>Nat.lt_trans hj l0) ca cn cc p.code W5 KX5 HC5 HOK.out q hq)
  have H5:=zh3 B5 HC5 (H4.out.2.1.keep (zkb B5 (S:=fun _=>False)) (fun f=>f) (fun f=>f))
  have HW:=zhd (show q.1.2=0→q.1.1= -1∧Walked p.code q.2 from fun h=>by rw[←hq]at h⊢;exact walkL_law HOK.out h)
  have hr:=HR2.out
  rw[hq]at hr
  have HR3:=zhd hr
  clear hW5 hkb B5 KX5 HC5 hq hr HR2 q0
  refine WK.out.mono ?_
  rintro e w6 ⟨v6,rfl,H6⟩
  have RS6:=H5.out.2.2.keep H6.out.2.1 (fun e=>by have:=H4.out.2.1.l;rcases e with e|e|e;omega;cases e;cases e) (fun e=>by have:=H4.out.2.1.l;rcases e with e|e|e;omega;cases e;cases e)
  have HRS:=zhd RS6
  have B6:=H4.out.2.2.1.trans ((H5.out.1.mono (Nat.le_of_lt l0)).trans (H6.out.2.1.below (B:=W.heap.size) (by have:=H5.out.1.size;omega) (fun j hj e=>by rcases e with e|e|e;omega;cases e;cases e)))
  have HB6:=zhd B6
  clear WK RS6 B6
  cases hz2:(q.1.2 !=0)with
  |true=>
   have hr:=HR3.out
   rw[hz2]at hr
   simp only[cond_true]at hr
   subst hr
   go_wp2_with fail
   obtain⟨w7,hw7⟩:∃w7,w7=w6.alloc (.cells #[.int .i64 q.1.1,.int .i64 q.1.2] 53):=⟨_,rfl⟩
   have b7:=zha hw7
   have B7:=zba hw7
   rw[←hw7]
   obtain⟨c0,c1,c2,c3,c4,f0,f1,l2⟩:=HRS.out.keep (zkb B7 (S:=fun _=>False)) (fun f=>f) (fun f=>f)
   have l1:W.heap.size+1<w7.heap.size:=by omega
   have x0:=zca b7 0 rfl
   have x1:=zca b7 1 rfl
   have l7:w6.heap.size<w7.heap.size:=zlt b7
   have d1:¬w6.heap.size=W.heap.size+1:=by have:=HRS.out.l;omega
   have d2:¬w6.heap.size=W.heap.size+1+1:=by have:=HRS.out.l;omega
   have BB:=zhd ((HB6.out.trans (B7.mono HB6.out.size)).trans ((five_keeps w7 (W.heap.size+1) (W.heap.size+1+1) 0 1 2 0 1 (.slice none 0 0) (.int .i64 0) (.int .i64 0) (.int .i64 q.1.1) (.int .i64 q.1.2)).below (by omega) (fun j hj e=>by omega)))
   clear hw7 b7 B7
   go_region
   go_wp2_with fail
   exact bodyPost_ret (v:=.tuple #[.agg #[.slice none 0 0,.int .i64 0,.int .i64 0],.agg #[.int .i64 q.1.1,.int .i64 q.1.2]]) (by simp only[results,Tryz.results18];go_simp) rfl ⟨.slice none 0 0,rfl,zhd ⟨RowAt.nil _ _,(fun g h=>by cases h),BB.out.drew⟩⟩
  |false=>
   have hz20:q.1.2=0:=by simpa using hz2
   obtain⟨hq1,hwd⟩:=HW.out hz20
   have hr:=HR3.out
   rw[hz2]at hr
   simp only[cond_false]at hr
   obtain⟨⟨qa,qb⟩,st⟩:=q
   dsimp only at hz20 hq1
   subst hz20
   subst hq1
   dsimp only at hwd H6 hr
   have WD:=zhd hwd
   have HR4:=zhd hr
   have hcl:=zhd (hwd.closed HOK.out)
   clear hr hwd HR3 HW hz2
   obtain⟨vh,vt⟩:=v6
   obtain⟨ha,hc,rfl⟩:∃a cap,vh= .slice a st.heights.length cap:=H6.out.1.heights.slice
   obtain⟨hs,hhs⟩:∃hs,hs=st.heights:=⟨_,rfl⟩
   rw[←hhs]at H6 HR4
   have qq:∀o,w6.cell? ⟨w4.heap.size,o,none⟩=(#[.slice ca cn cc,.slice ha hs.length hc,vt,.int .i64 st.most]:Array Value)[o]? :=fun o=>by rw[zch H6.out.1.h]
   have k0:=qq 0
   have k1:=qq 1
   have k3:=qq 3
   simp only[List.getElem?_toArray,List.getElem?_cons_zero,List.getElem?_cons_succ]at k0 k1 k3
   have lk:w4.heap.size<w6.heap.size:=zlt H6.out.1.h
   have hsn:hs.length=p.code.length:=by rw[hhs];exact WD.out.inv.len
   have hn5:p.code.length≤512:=HOK.out.len
   have HN:=zh3 hsn hn5 hhs
   have RH:=H6.out.1.heights
   rw[←hhs]at RH
   have HRH:=zhd RH
   clear qq hsn hn5 RH hhs
   go_wp2_with fail
   obtain⟨w7,hw7⟩:∃w7,w7=w6.alloc (.cells #[.int .i64 (-1),.int .i64 0] 53):=⟨_,rfl⟩
   have B7:=zba hw7
   rw[←hw7]
   have k0:=(B7.cell (p:=⟨w4.heap.size,0,none⟩) lk).trans k0
   have k1:=(B7.cell (p:=⟨w4.heap.size,1,none⟩) lk).trans k1
   have k3:=(B7.cell (p:=⟨w4.heap.size,3,none⟩) lk).trans k3
   have l7:=B7.size
   have H7:=zh4 B7 (HB6.out.trans (B7.mono HB6.out.size)) (HRS.out.keep (zkb B7 (S:=fun _=>False)) (fun f=>f) (fun f=>f)) (HRH.out.below B7)
   have lk7:w4.heap.size<w7.heap.size:=Nat.lt_of_lt_of_le lk l7
   clear hw7 B7 lk l7
   go_loopg [36] (hs.length) (fun gk v36 wr=>∃i:Nat,v36= .int .i64 i∧i≤hs.length∧gk=hs.length - i∧firstR p.code i (hs.drop i)=firstR p.code 0 hs∧Below w7.heap.size w7 wr)
   case atStart=>exact⟨0,rfl,Nat.zero_le _,rfl,rfl,Below.refl _ _⟩
   case round=>
    obtain⟨i,rfl,hi,hgk,hfr,hB⟩:=hrel
    have BW:=H7.out.2.1.trans (hB.mono H7.out.2.1.size)
    have k0r:=(hB.cell (p:=⟨w4.heap.size,0,none⟩) lk7).trans k0
    have k1r:=(hB.cell (p:=⟨w4.heap.size,1,none⟩) lk7).trans k1
    have k3r:=(hB.cell (p:=⟨w4.heap.size,3,none⟩) lk7).trans k3
    have lkr:w4.heap.size<wr.heap.size:=Nat.lt_of_lt_of_le lk7 hB.size
    have RR:=H7.out.2.2.2.below hB
    by_cases hin:i<hs.length
    ·obtain⟨x,hx⟩:=elem_at hin
     have hdr:hs.drop i=x::hs.drop (i+1):=by
      rw[List.drop_eq_getElem_cons (zge hx).1,(zge hx).2]
     rw[hdr,firstR]at hfr
     obtain⟨g,off,rfl,hg⟩:=RR.addr hx
     have m0:=row_int RR hx
     have hin':(i:Int)<hs.length:=by omega
     have hwi:IntKind.i64.wrap ((i:Int)+1)=(i:Int)+1:=IntWalk.i64_in _ (by have:=HN.out.1;have:=HN.out.2.1;omega)
     cases hz3:decide (0≤x)with
     |false=>
      have e0:¬0≤x:=of_decide_eq_false hz3
      rw[hz3]at hfr
      simp only[Bool.false_and,cond_false]at hfr
      have HX:=zh3 hfr hgk hB
      clear hfr hgk hB BW RR hdr hx k0r k1r k3r
      go_wp2_with fail
      go_roundg (hs.length - (i+1))
      case measure=>have:=HX.out.2.1;omega
      case rel=>exact⟨i+1,by simp,by omega,rfl,HX.out.1,HX.out.2.2⟩
     |true=>
      have e0:0≤x:=of_decide_eq_true hz3
      rw[hz3]at hfr
      simp only[Bool.true_and]at hfr
      have RO:=zhd (round_any w4.heap.size _ ca cn cc p.code wr k0r lkr (HI.out.keep (S:=fun _=>False) (zkb BW) (fun _ _ f=>f)).code HOK.out (fun k=>∃h,st.heights[k]? =some h∧0≤h) hcl.out i ⟨x,by rw[←HN.out.2.2];exact hx,e0⟩ _ rfl)
      generalize roundL p.code i=rl at*
      have HX:=zh4 hfr hgk hB BW
      clear hfr hgk hB BW RR hdr hx k0r k1r k3r
      go_wp2_with fail
      refine RO.out.mono ?_
      rintro e w8 ⟨rfl,hB8⟩
      have H8:=zhd hB8
      have hRS:=H7.out.2.2.1.keep (zkb (HX.out.2.2.1.trans (hB8.mono HX.out.2.2.1.size)) (S:=fun _=>False)) (fun f=>f) (fun f=>f)
      clear hB8 RO
      cases rl with
      |true=>
       have hf:=HX.out.1
       simp only[cond_true]at hf
       have hr:=HR4.out
       rw[←hf]at hr
       subst hr
       obtain⟨c0,c1,c2,c3,c4,f0,f1,l2⟩:=hRS
       have l1:W.heap.size+1<w8.heap.size:=by omega
       have BB:=zhd ((HX.out.2.2.2.trans (H8.out.mono HX.out.2.2.2.size)).trans ((five_keeps w8 (W.heap.size+1) (W.heap.size+1+1) 0 1 2 0 1 (.slice none 0 0) (.int .i64 0) (.int .i64 0) (.int .i64 i) (.int .i64 133)).below (by omega) (fun j hj e=>by omega)))
       clear hf
       go_wp2_with fail
       exact bodyPost_ret (v:=.tuple #[.agg #[.slice none 0 0,.int .i64 0,.int .i64 0],.agg #[.int .i64 i,.int .i64 133]]) (by simp only[results,Tryz.results18];go_simp) rfl ⟨.slice none 0 0,rfl,zhd ⟨RowAt.nil _ _,(fun g h=>by cases h),BB.out⟩⟩
      |false=>
       have hf:=HX.out.1
       simp only[cond_false]at hf
       have HF:=zhd hf
       clear hf hRS
       go_wp2_with fail
       go_roundg (hs.length - (i+1))
       case measure=>have:=HX.out.2.1;omega
       case rel=>exact⟨i+1,by simp,by omega,rfl,HF.out,HX.out.2.2.1.trans (H8.out.mono HX.out.2.2.1.size)⟩
    ·obtain rfl:i=hs.length:=by omega
     obtain⟨wo,rfl⟩:∃wo:World,wo=wr:=⟨_,rfl⟩
     rw[List.drop_eq_nil_of_le (Nat.le_refl _),firstR]at hfr
     have hr:=HR4.out
     rw[←hfr]at hr
     subst hr
     have hno:=zhd (show∀k,(∃h,st.heights[k]? =some h∧0≤h)→roundL p.code k=false from fun k ⟨h,hh,h0⟩=>by
      have:=firstR_none hs 0 hfr.symm k h (by rw[HN.out.2.2];exact hh) h0
      rwa[Nat.zero_add]at this)
     have hdn:=zhd (fun k hk=>dn_all hcl.out hno.out (k:=k) hk)
     have hRS:=zhd (H7.out.2.2.1.keep (zkb hB (S:=fun _=>False)) (fun f=>f) (fun f=>f))
     have HX:=zh2 BW RR
     obtain⟨ti,hti,tz,ts,tb⟩:=info_parts infoInt
     obtain⟨cs,hmk,hcs⟩:=run_make_ints (P:=Tryz.prog) (t:=49) Tryz.underlying49 hti tz ts tb cn (by have:=HR.out.2.2;have:=HN.out.2.1;omega)
     have HCS:=zhd hcs
     clear hfr hgk hB BW RR k0 k1 k3 hti tz ts tb hcs
     go_wp2_with fail
     go_region
     go_wp2_with fail
     obtain⟨w9,hw9⟩:∃w9,w9=((wo.alloc (.cells #[.slice ha hs.length hc,.int .i64 st.most,.int .i64 0] 51)).alloc (.cells cs 3)).drew:=⟨_,rfl⟩
     have B9:Below wo.heap.size wo w9:=by rw[hw9];exact((zal).alloc (by simp) _).drew
     have fb:w9.heap[wo.heap.size]? =some (.cells #[.slice ha hs.length hc,.int .i64 st.most,.int .i64 0] 51 (0,0)):=by rw[hw9];exact heap_lt2
     have kr:RowAt w9 3 (.slice (some ⟨wo.heap.size+1,0,none⟩) cn cn) (List.replicate cn (0:Int)):=by rw[hw9];exact(RowAt.made heap_new2 HCS.out (by simp) (by have:=HR.out.2.2;have:=HN.out.2.1;unfold maxLen;omega)).drew
     have sz9:w9.heap.size=wo.heap.size+2:=by rw[hw9];simp
     rw[←hw9]
     have H9:=zh5 B9 fb kr sz9 k0r
     clear hw9 B9 fb kr sz9 k0r k1r k3r hmk
     go_loopg [72] (hs.length) (fun gk v72 wr=>SLRel w9 wo.heap.size (wo.heap.size+1) cn p.code (.slice ha hs.length hc) st.most hs gk v72 wr)
     case atStart=>exact⟨0,0,_,rfl,Nat.zero_le _,rfl,Nat.zero_le _,rfl,H9.out.2.1,H9.out.2.2.1,by simp,KN.zero _ _,Keeps.refl _ _⟩
     case round=>
      obtain⟨i,m,known,rfl,hi,hgk,hm,hsp,hfb,hkr,hkl,hKN,hK⟩:=hrel
      have hRS2:=zhd ((hRS.out.keep (zkb H9.out.1 (S:=fun _=>False)) (fun f=>f) (fun f=>f)).keep hK (fun e=>by have:=hRS.out.l;omega) (fun e=>by have:=hRS.out.l;omega))
      have RRz:=(HX.out.2.below H9.out.1).keep hK (fun g hg e=>by have:=HX.out.2.lt hg;omega)
      by_cases hin:i<hs.length
      ·obtain⟨x,hx⟩:=elem_at hin
       have hdr:hs.drop i=x::hs.drop (i+1):=by
        rw[List.drop_eq_getElem_cons (zge hx).1,(zge hx).2]
       rw[hdr,spanM]at hsp
       obtain⟨g,off,rfl,hg⟩:=RRz.addr hx
       have m0:=row_int RRz hx
       have hin':(i:Int)<hs.length:=by omega
       have hwi:IntKind.i64.wrap ((i:Int)+1)=(i:Int)+1:=IntWalk.i64_in _ (by have:=HN.out.1;have:=HN.out.2.1;omega)
       cases hz3:decide (0≤x)with
       |false=>
        have e0:¬0≤x:=of_decide_eq_false hz3
        rw[hz3]at hsp
        simp only[cond_false]at hsp
        have HZ:=zh6 hsp hgk hfb hkr hKN hK
        clear hsp hgk hfb hkr hKN hK RRz hdr hx
        go_wp2_with fail
        go_roundg (hs.length - (i+1))
        case measure=>have:=HZ.out.2.1;omega
        case rel=>exact⟨i+1,m,known,by simp,by omega,rfl,hm,HZ.out.1,HZ.out.2.2.1,HZ.out.2.2.2.1,hkl,HZ.out.2.2.2.2.1,HZ.out.2.2.2.2.2⟩
       |true=>
        have e0:0≤x:=of_decide_eq_true hz3
        rw[hz3]at hsp
        simp only[cond_true]at hsp
        have hRi:∃h,st.heights[i]? =some h∧0≤h:=⟨x,by rw[←HN.out.2.2];exact hx,e0⟩
        have KW:=Keeps.trans (S:=fun j=>wo.heap.size≤j) (T:=fun j=>j=wo.heap.size∨j=wo.heap.size+1) ((zkb H9.out.1 (S:=fun _=>False)).mono (fun _ _ f=>f.elim)) hK (fun j hj e=>by omega)
        have kz:=(KW.cell (p:=⟨w4.heap.size,0,none⟩) lkr (by show¬wo.heap.size≤w4.heap.size;omega)).trans H9.out.2.2.2.2
        have lkz:w4.heap.size<wr.heap.size:=Nat.lt_of_lt_of_le lkr KW.size
        have HCz:=(HI.out.keep (S:=fun _=>False) (zkb HX.out.1) (fun _ _ f=>f)).keep KW (fun g hg e=>by have:=HX.out.1.size;omega)
        have CS:=zhd (fun W' (K:Below wr.heap.size wr W')=>span_any w4.heap.size (fun j=>j<W.heap.size) ca cn cc p.code HOK.out (fun k=>∃h,st.heights[k]? =some h∧0≤h) hcl.out (wo.heap.size+1) 0 cn (by omega) (fun j hj=>by have:=HX.out.1.size;omega) (p.code.length+1) i W' known (by have:=HN.out.2.1;omega) (hdn.out i hRi) hRi ((K.cell (p:=⟨w4.heap.size,0,none⟩) lkz).trans kz) (Nat.lt_of_lt_of_le lkz K.size) (HCz.keep (S:=fun _=>False) (zkb K) (fun _ _ f=>f)).code (hkr.below K) hkl hKN)
        have hle:=spF_le p.code (p.code.length+1) i
        generalize spF p.code (p.code.length+1) i=s at*
        have p2:=zca hfb 2 rfl
        have lf:wo.heap.size<wr.heap.size:=zlt hfb
        have hmx:max (m:Int) (s:Int)=((max m s:Nat):Int):=by omega
        have HM:=zhd hmx
        have HZ:=zh5 hsp hgk hfb hK KW
        clear hsp hgk hfb hkr hKN hK KW RRz hdr hx hRi kz HCz hmx
        go_wp2_with fail
        go_region_law
         ((go_simp;go_at_call 53;refine(CS.out _ ((Below.refl _ _).drew)).mono ?_;rintro e w8 ⟨rfl,H8⟩;obtain⟨kn',g1,g2,g3,g4⟩:=H8.out;have hb8:=(g4.block wo.heap.size lf (by omega)).trans HZ.out.2.2.1;have y2:w8.cell? ⟨wo.heap.size,2,none⟩=some (.int .i64 m):=(by rw[zch hb8];rfl);have fy:∀o,w8.frozen? ⟨wo.heap.size,o,none⟩=false:=(fun o=>zfr hb8 o);have ly:wo.heap.size<w8.heap.size:=(zlt hb8);have HG:=zh5 g1 g2 g3 (((Keeps.refl (fun j=>j=wo.heap.size+1) wr).drew).comp g4) hb8;clear g1 g2 g3 g4 hb8))
        all_goals
         go_wp2_with fail
         go_roundg (hs.length - (i+1))
         case measure=>have:=HZ.out.2.1;omega
         refine⟨i+1,max m s,kn',by simp,by omega,rfl,by have:=HN.out.2.1;omega,HZ.out.1,?_,HG.out.1.keep (Keeps.setCell (S:=fun j=>j=wo.heap.size) (p:=⟨wo.heap.size,2,none⟩) (Keeps.refl _ _) (.inl rfl) _) (fun g hg e=>by have h1:wo.heap.size+1=g:=Option.some.inj hg;omega),HG.out.2.1,HG.out.2.2.1,?_⟩
         ·rw[←HM.out]
          exact set_fact HG.out.2.2.2.2 _
         ·exact(HZ.out.2.2.2.1.trans (T:=fun j=>j=wo.heap.size+1) (HG.out.2.2.2.1) (fun j _ e=>.inr e)).trans (T:=fun j=>j=wo.heap.size) (Keeps.setCell (S:=fun j=>j=wo.heap.size) (p:=⟨wo.heap.size,2,none⟩) (Keeps.refl _ _) (.inl rfl) _) (fun j _ e=>.inl e)
      ·obtain rfl:i=hs.length:=by omega
       rw[List.drop_eq_nil_of_le (Nat.le_refl _),spanM]at hsp
       have e0:=zca hfb 0 rfl
       have e1:=zca hfb 1 rfl
       have e2:=zca hfb 2 rfl
       have lf:wo.heap.size<wr.heap.size:=zlt hfb
       have d1:¬wo.heap.size=W.heap.size+1:=by have:=hRS.out.l;omega
       have d2:¬wo.heap.size=W.heap.size+1+1:=by have:=hRS.out.l;omega
       have Bz:Below W.heap.size W wr:=HX.out.1.trans ((H9.out.1.mono HX.out.1.size).trans (hK.below (by have:=HX.out.1.size;have:=H9.out.1.size;omega) (fun j hj e=>by have:=HX.out.1.size;omega)))
       have HZ:=zh3 hsp Bz RRz
       clear hsp Bz RRz hfb hkr hKN hK hgk
       obtain⟨c0,c1,c2,c3,c4,f0,f1,l2⟩:=hRS2.out
       have l1:W.heap.size+1<wr.heap.size:=by omega
       have KF:=five_keeps wr (W.heap.size+1) (W.heap.size+1+1) 0 1 2 0 1 (.slice ha hs.length hc) (.int .i64 st.most) (.int .i64 m) (.int .i64 (-1)) (.int .i64 0)
       have BB:=zh2 (HZ.out.2.1.trans (KF.below (by omega) (fun j hj e=>by omega))) (HZ.out.2.2.keep KF (fun g hg e=>by have:=H6.out.1.lo g (.inr (.inl hg));have:=H4.out.2.1.l;omega))
       clear KF
       go_wp2_with fail
       exact bodyPost_ret (v:=.tuple #[.agg #[.slice ha hs.length hc,.int .i64 st.most,.int .i64 m],.agg #[.int .i64 (-1),.int .i64 0]]) (by simp only[results,Tryz.results18];go_simp) rfl ⟨.slice ha hs.length hc,by rw[←HZ.out.1],zhd ⟨BB.out.2,(fun g hg=>by have:=H6.out.1.lo g (.inr (.inl hg));have:=H4.out.2.1.l;omega),BB.out.1⟩⟩
end Go.Proofs.YtakljipkaoahnaaGreatDoor
namespace Go.Va
open Go.Own Go.RowKit
def fitV (d:Int):Val→Int→Bool×Int
 | .mk _ _ s l,left=>bif decide (left - 1<0)||(decide (12<d)||decide (1100<s.size))then(false,left - 1)else fitL (d+1) l (left - 1)
where fitL (d:Int):List Val→Int→Bool×Int
 |[],left=>(true,left)
 |x::r,left=>bif (fitV d x left).1 then fitL d r (fitV d x left).2 else(false,(fitV d x left).2)
def Val.all (P:Int→Int→ByteArray→Prop):Val→Prop
 | .mk k n s l=>P k n s∧allL l
where allL:List Val→Prop
 |[]=>True
 |x::r=>x.all P∧allL r
end Go.Va
namespace Go.Proofs.YtakljipkaoahnaaGreatDoor
open Go.RowKit Go.Own Go.Own.MapTy Go.Va Go.Sort
open Go.Own.Cells (sz enc)
def LX (w:World)(b:Nat)(n:Int):Prop:=w.heap[b]? =some (.cells #[.int .i64 n] 3 (0,0))
def FPost (w:World)(b:Nat)(r:Bool×Int)(e:Ending)(w':World):Prop:=e= .returned (.bool r.1)∧Hid (LX w' b r.2∧Keeps (fun j=>j=b) w w')
def FRel (w:World)(b:Nat)(d:Int)(l:List Val)(r:Bool×Int)(gk:Nat)(v31:Value)(wr:World):Prop:=
 ∃(i:Nat) (cur:Int),v31= .int .i64 i∧i≤l.length∧gk=l.length - i∧LX wr b cur∧Keeps (fun j=>j=b) w wr∧fitV.fitL d (l.drop i) cur=r∧0≤cur∧cur≤400
end Go.Proofs.YtakljipkaoahnaaGreatDoor
namespace Go.Proofs.YtakljipkaoahnaaGreatDoor
open Go.ChangeShapes Go.WideShapes Go.Deep Go.RowKit Go.Own Go.Va
open Go.Own.Cells (sz enc)
section
variable{H:Type} {tok:TypeId×Value→H} {P:Program} {w:World} {base:Nat} {spare:Nat→Bool} {held:Bool}
def B64 (k n:Int)(_:ByteArray):Prop:=(-9223372036854775808≤k∧k≤9223372036854775807)∧ -9223372036854775808≤n∧n≤9223372036854775807
end
end Go.Proofs.YtakljipkaoahnaaGreatDoor
namespace Go.Proofs.YtakljipkaoahnaaGreatDoor
open Go.RowKit Go.Own Go.Own.MapTy Go.Va Go.Sort
open Go.Own.Cells (sz enc)
def textB (ls:List (List UInt8)):List UInt8:=ls.flatMap (fun l=>l++[10])
def joinL:List UInt8→List (List UInt8)→List UInt8
 |l,[]=>l
 |l,m::r=>l++10::joinL m r
def nopB:List UInt8:=[32,32,110,111,112]
def popB:List UInt8:=[32,32,112,111,112]
def nowB:List UInt8:=[32,32,110,111,119]
def failB:List UInt8:=[32,32,102,97,105,108,32,34,120,34]
def labB:List UInt8:=[108,49,58]
def sigB:List UInt8:=[32,32,115,105,103,110,97,108,32,34,103,111,34]
def jumpB:List UInt8:=[32,32,106,117,109,112,32,108,49]
def xN:ByteArray:=⟨#[120]⟩
end Go.Proofs.YtakljipkaoahnaaGreatDoor
