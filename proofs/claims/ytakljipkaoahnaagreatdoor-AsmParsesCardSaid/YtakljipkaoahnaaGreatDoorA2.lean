/- Parts of the proof: what the functions and the plain laws give that later parts lean on. Conditions: none beyond those that each theorem names. -/
import Derived.Test.YtakljipkaoahnaaGreatDoorRows
import Derived.Deep.CutBlock
import Derived.RangeFuncRecord
import Derived.Test.YtakljipkaoahnaaGreatDoorA1
set_option maxRecDepth 100000
set_option maxHeartbeats 8000000
namespace Go.Own
open Go.RowKit Go.Own.MapTy
open Cells (sz enc)
theorem RowAt.alloc {α:Type}[Cells α]{w:World}{e:TypeId}{v:Value}{xs:List α}(h:RowAt w e v xs)(o:Obj):RowAt (w.alloc o) e v xs:=h.frame fun _ hg=>Below.heap_alloc _ _ _ (h.lt hg)
theorem RowAt.drew {α:Type}[Cells α]{w:World}{e:TypeId}{v:Value}{xs:List α}(h:RowAt w e v xs):RowAt w.drew e v xs:=h.frame fun _ _=>rfl
theorem RowAt.below {α:Type}[Cells α]{w w':World}{e:TypeId}{v:Value}{xs:List α}(h:RowAt w e v xs)(K:Below w.heap.size w w'):RowAt w' e v xs:=h.keep (zkb K) (fun _ _ f=>f)
theorem heap_new2 {w:World}{X Y:Obj}:((w.alloc X).alloc Y).heap[w.heap.size+1]? =some Y:=by
 rw[show w.heap.size+1=(w.alloc X).heap.size by simp]
 exact heap_alloc_new _ _
theorem heap_lt2 {w:World}{X Y:Obj}:((w.alloc X).alloc Y).heap[w.heap.size]? =some X:=(Below.heap_alloc _ _ _ (by simp)).trans (heap_alloc_new _ _)
theorem wp_appW {α:Type}[Cells α]{P:Program}{t e:TypeId}{bytes:Nat}(E:ElemOf α P t e bytes){W:World}{ops:Array Oper}{rest:List Oper}{o:Oper}{a:Act}{Q:Exit→Act→World→Prop}
  (hg:o.guard=none)(s x:Operand)(hop:o.op=Op.call {callee:=Callee.builtin Builtin.append,args:=#[s,x],argTypes:=#[t,t]})
  {v:Value}{xs:List α}(h:RowAt W e v xs)(y:α)(hs:a.eval s=v){b:Nat}(hx:a.eval x= .slice (some ⟨b,0,none⟩) 1 1){fr:Nat×Nat}(hW:W.heap[b]? =some (.cells (enc y).toArray e fr))
  (hl:(xs.length+1)*bytes≤140737488355328)(h63:xs.length+1≤maxLen)
  (hK:∀a1 q1 w1,RowAt w1 e (.slice a1 (xs.length+1) q1) (xs++[y])→Keeps (fun j=>v.ownBlock=some j) W w1→(∀g,(Value.slice a1 (xs.length+1) q1).ownBlock=some g→v.ownBlock=some g∨W.heap.size≤g)→wpList P ops Q rest (a.put o.dst (.slice a1 (xs.length+1) q1)) w1):
  wpList P ops Q (o::rest) a W:=by
 obtain⟨i,z,hi,h1,h2,h3,h4⟩:=E.hi
 refine wpList_append hg s x t hop e i z bytes E.ht hi h1 h2 h3 h4 v xs hs h ⟨b,0,none⟩ 1 1 [y] hx rfl ?_ hl h63 ?_
 ·intro j u hu
  rw[Addr.add_lit,zch hW,Nat.zero_add]
  simp at hu⊢
  exact hu
 ·intro v1 w1 hr hg1 hf1
  obtain⟨a1,q1,rfl⟩:=hr.slice
  rw[List.length_append,List.length_singleton]at*
  exact hK a1 q1 w1 hr (Keeps.of_grown hg1 (fun k h=>h)) (fun g h=>(hf1 g h).imp id (fun h=>h.1))
theorem run_apps {α:Type}[Cells α]{P:Program}{t e:TypeId}{bytes:Nat}(E:ElemOf α P t e bytes){W:World}{v u:Value}{xs ys:List α}(h:RowAt W e v xs)(hu:RowAt W e u ys)
  (hl:(xs.length+ys.length)*bytes≤140737488355328)(h63:xs.length+ys.length≤maxLen)(ty:TypeId):
  ∃a1 q1 w1,(Builtin.append_ #[t,t] ty #[v,u]).run P W= .ok (.slice a1 (xs.length+ys.length) q1) w1∧RowAt w1 e (.slice a1 (xs.length+ys.length) q1) (xs++ys)∧Keeps (fun j=>v.ownBlock=some j) W w1∧
   ∀g,(Value.slice a1 (xs.length+ys.length) q1).ownBlock=some g→v.ownBlock=some g∨W.heap.size≤g:=by
 obtain⟨i,z,hi,h1,h2,h3,h4⟩:=E.hi
 rcases hu with⟨rfl,rfl⟩|⟨g,off,cap,cur,rfl,hh,hc,hm,hsz,hcs⟩
 ·have hr:(Builtin.append_ #[t,t] ty #[v,.slice none 0 0]).run P W= .ok v W:=by
   rcases h with⟨rfl,rfl⟩|⟨g,off,cap,cur,rfl,hh,hc,_⟩
   ·simp[Builtin.append_,run_underlying E.ht,sizeOf,typeInfo,hi,Builtin.lenOf,Builtin.firstCells]
   ·simp[Builtin.append_,run_underlying E.ht,sizeOf,typeInfo,hi,Builtin.lenOf,Builtin.firstCells,loadCells,hc,storeCells,Addr.add_lit]
  obtain⟨va,vc,rfl⟩:=h.slice
  exact⟨va,vc,W,hr,by simpa using h,Keeps.refl _ _,fun g hg=>.inl hg⟩
 ·obtain⟨v1,w1,hr,hr1,hg1,hf1⟩:=run_append (P:=P) t ty e i z bytes E.ht hi h1 h2 h3 h4 h ⟨g,off,none⟩ ys.length cap ys rfl (fun j u hu=>by rw[Addr.add_lit,zch hh];exact hcs j u hu) hl h63
  obtain⟨a1,q1,rfl⟩:=hr1.slice
  rw[List.length_append]at*
  exact⟨a1,q1,w1,hr,hr1,Keeps.of_grown hg1 (fun k h=>h),fun g h=>(hf1 g h).imp id (fun h=>h.1)⟩
theorem step_apps {α:Type}[Cells α]{P:Program}{t e:TypeId}{bytes:Nat}(E:ElemOf α P t e bytes){W:World}{ops:Array Oper}{o:Oper}{a:Act}{K:Act→World→Prop}{Q:Exit→Act→World→Prop}{N:Prop}
  (hg:o.guard=none)(s x:Operand)(hop:o.op=Op.call {callee:=Callee.builtin Builtin.append,args:=#[s,x],argTypes:=#[t,t]})
  {v u:Value}(hs:a.eval s=v)(hx:a.eval x=u){xs ys:List α}(h:RowAt W e v xs)(hu:RowAt W e u ys)
  (hl:(xs.length+ys.length)*bytes≤140737488355328)(h63:xs.length+ys.length≤maxLen)
  (n:Nat)(hn:xs.length+ys.length=n)
  (hK:∀a1 q1 w1,RowAt w1 e (.slice a1 n q1) (xs++ys)→Keeps (fun j=>v.ownBlock=some j) W w1→(∀g,(Value.slice a1 n q1).ownBlock=some g→v.ownBlock=some g∨W.heap.size≤g)→K (a.put o.dst (.slice a1 n q1)) w1):
  if Region.wanted o (yielded ops a.tmps)=true then Oper.wp P o a W K Q else N:=by
 subst hn
 have hw:Region.wanted o (yielded ops a.tmps)=true:=by simp[Region.wanted,hg]
 rw[if_pos hw]
 obtain⟨a1,q1,w1,hr,hr1,hk1,hf1⟩:=run_apps E h hu hl h63 o.type
 unfold Oper.wp execOp
 simp only[hop,resolve,invoke,builtin,Sem.run_bind,Sem.run_pure,Result.andThen_ok,List.map_toArray,List.map_cons,List.map_nil,hs,hx,hr]
 exact hK a1 q1 w1 hr1 hk1 hf1
theorem RowAt.lit {α:Type}[Cells α]{W:World}{b:Nat}{e:TypeId}{y:α}(h:W.heap[b]? =some (.cells (enc y).toArray e (0,0))):RowAt W e (.slice (some ⟨b,0,none⟩) 1 1) [y]:=
 RowAt.made h (by simp) rfl (by unfold maxLen;omega)
theorem cut_to {α:Type}[Cells α]{P:Program}{t e:TypeId}{bytes:Nat}(E:ElemOf α P t e bytes){w:World}{ad:Option Addr}{n cap:Nat}{xs:List α}(h:RowAt w e (.slice ad n cap) xs){k:Nat}(hk:k≤xs.length):
  (∀W:World,(Instr.slice t (.slice ad n cap) none (some (.int .i64 k)) none).run P W= .ok (.slice ad k cap) W)∧RowAt w e (.slice ad k cap) (xs.take k):=by
 obtain⟨i,z,hi,h1,h2,h3,h4⟩:=E.hi
 obtain⟨a,b⟩:=h.pre hk
 exact⟨fun W=>run_slice_to E.ht hi a W,b⟩
theorem RowAt.setOne {α:Type}[Cells α]{w:World}{e:TypeId}{xs:List α}{g off n cap:Nat}(h:RowAt w e (.slice (some ⟨g,off,none⟩) n cap) xs){i:Nat}{x y:α}(hx:xs[i]? =some x){j:Nat}{u:Value}(hj:j<sz α)(hy:enc y=(enc x).set j u):
  RowAt (w.setCell ⟨g,off+(i*sz α+j),none⟩ u) e (.slice (some ⟨g,off,none⟩) n cap) (xs.set i y):=by
 have hi:=(zge hx).1
 rcases h with⟨h,_⟩|⟨g',off',cap',cur,hv,hg,h1,h2,h3,hc⟩
 ·cases h
 ·cases hv
  have hb:off+(i*sz α+sz α)≤cur.size:=by
   have:(i+1)*sz α≤cap*sz α:=Nat.mul_le_mul_right _ (by omega)
   rw[Nat.add_mul]at this
   omega
  refine .inr ⟨g,off,cap,cur.setIfInBounds (off+(i*sz α+j)) u,by simp,by simp[World.setCell,Array.getElem?_modify,hg],by simpa using h1,h2,by simpa using h3,fun m v hm=> ?_⟩
  have hml:=(zge hm).1
  rw[flat_len,List.length_set]at hml
  have hs:0<sz α:=by omega
  have hd:=Nat.div_add_mod m (sz α)
  have hmm:=Nat.mod_lt m hs
  generalize hq:m/sz α=q at hd
  generalize hr:m%sz α=r at hd hmm
  have hqn:q<xs.length:=by rw[←hq];exact Nat.div_lt_of_lt_mul (by rw[Nat.mul_comm];exact hml)
  have hjq:m=q*sz α+r:=by rw[Nat.mul_comm];omega
  subst hjq
  by_cases hqi:q=i
  ·subst hqi
   rw[flat_get _ q r y (by simp[hqn]) hmm,hy]at hm
   by_cases hrj:r=j
   ·subst hrj
    rw[List.getElem?_set_self (by rw[Cells.len];exact hmm)]at hm
    cases hm
    rw[Array.getElem?_setIfInBounds_self_of_lt (by omega)]
   ·rw[List.getElem?_set_ne (fun e=>hrj e.symm)]at hm
    rw[Array.getElem?_setIfInBounds_ne (by omega)]
    exact hc _ v (by rw[flat_get _ q r x hx hmm];exact hm)
  ·rw[flat_get _ q r xs[q] (by rw[List.getElem?_set_ne (fun e=>hqi e.symm)];simp[hqn]) hmm]at hm
   rw[Array.getElem?_setIfInBounds_ne ?_]
   ·exact hc _ v (by rw[flat_get _ q r xs[q] (by simp[hqn]) hmm];exact hm)
   ·intro he
    rcases Nat.lt_or_gt_of_ne hqi with hlt|hgt
    ·have:(q+1)*sz α≤i*sz α:=Nat.mul_le_mul_right _ hlt
     rw[Nat.add_mul]at this
     omega
    ·have:(i+1)*sz α≤q*sz α:=Nat.mul_le_mul_right _ hgt
     rw[Nat.add_mul]at this
     omega
def IM (ν:Type)(ve:ν→Value):MapTy Int ν:=⟨fun n=>.int .i64 n,ve,fun a b h=>by simpa using h⟩
theorem IM.klaw {ν:Type}{ve:ν→Value}{P:Program}{k:TypeId}(hd:P.underlying k=some (.int .i64))
  (check:∀(W:World) (em:Bool) (x:Int),(Instr.checkKey em 10000 k (.int .i64 x)).run P W= .ok () W):KLaw (IM ν ve) P k:=
 KLaw.of_now hd check (fun x y=>by simp[IM,Instr.sameNow];rfl) (fun x=>by simp[IM,Instr.sameBits])
end Go.Own
namespace Go.Va
open Go.Own Go.RowKit
inductive Val where
 |mk (kind n:Int) (s:ByteArray) (l:List Val)
namespace Val
def kind:Val→Int|mk k _ _ _=>k
def num:Val→Int|mk _ n _ _=>n
def txt:Val→ByteArray|mk _ _ s _=>s
def list:Val→List Val|mk _ _ _ l=>l
end Val
def Val.parts:Val→Nat
 | .mk _ _ _ l=>1+partsL l
where partsL:List Val→Nat
 |[]=>0
 |x::r=>x.parts+partsL r
theorem Val.parts_pos (v:Val):0<v.parts:=by cases v;unfold Val.parts;omega
theorem Val.partsL_mem {x:Val}:∀{l:List Val},x∈l→x.parts≤Val.parts.partsL l
 |[],h=>by cases h
 |y::r,h=>by
  unfold Val.parts.partsL
  rcases List.mem_cons.1 h with rfl|h
  ·omega
  ·have:=partsL_mem h;omega
theorem Val.parts_lt {v x:Val}(h:x∈v.list):x.parts<v.parts:=by
 cases v with
 |mk k n s l=>
  have:=Val.partsL_mem (show x∈l from h)
  have e:(Val.mk k n s l).parts=1+Val.parts.partsL l:=by rw[Val.parts]
  omega
structure VC where
 kind:Int
 n:Int
 s:ByteArray
 la:Option Addr
 ln:Nat
 lc:Nat
def vcEnc (c:VC):List Value:=[.int .i64 c.kind,.int .i64 c.n,.string c.s,.slice c.la c.ln c.lc]
instance:Cells VC where
 sz:=4
 enc:=vcEnc
 len:=fun _=>rfl
 one:=by
  intro x v hv
  simp[vcEnc]at hv
  rcases hv with rfl|rfl|rfl|rfl<;>rfl
open Cells (sz enc)
def Rd {α:Type}[Cells α](w:World)(v:Value)(xs:List α):Prop:=
 ∃a cap,v= .slice a xs.length cap∧xs.length≤cap∧cap≤maxLen∧∀i x,xs[i]? =some x→∃g off,a=some ⟨g,off,none⟩∧g<w.heap.size∧∀j u,(enc x)[j]? =some u→w.cell? ⟨g,off+(i*sz α+j),none⟩=some u
inductive VAt (w:World):Value→List Val→Prop
 |mk (v:Value) (cs:List VC) (l:List Val) (hr:Rd w v cs) (hl:cs.length=l.length) (h:∀(i:Nat) (c:VC) (x:Val),cs[i]? =some c→l[i]? =some x→c.kind=x.kind∧c.n=x.num∧c.s=x.txt)
   (hv:∀(i:Nat) (c:VC) (x:Val),cs[i]? =some c→l[i]? =some x→VAt w (.slice c.la c.ln c.lc) x.list):VAt w v l
structure VCAt (w:World)(c:VC)(x:Val):Prop where
 kind:c.kind=x.kind
 n:c.n=x.num
 s:c.s=x.txt
 l:VAt w (.slice c.la c.ln c.lc) x.list
end Go.Va
namespace Go.Va
structure Inf where
 name:ByteArray
 operand:Int
 i:Int
 o:Int
 blocks:Bool
 ends:Bool
 flow:Bool
def Inf.cells (x:Inf):Array Value:=#[.string x.name,.int .i64 x.operand,.int .i64 x.i,.int .i64 x.o,.bool x.blocks,.bool x.ends,.bool x.flow]
def waitsL (op:Int):Inf×Bool:=
 bif op==17 then(⟨⟨#[116,105,109,101,114]⟩,0,1,1,false,false,false⟩,true)else
 bif op==18 then(⟨⟨#[119,97,105,116]⟩,0,1,1,true,false,false⟩,true)else
 bif op==19 then(⟨⟨#[99,97,110,99,101,108]⟩,0,1,1,false,false,false⟩,true)else
 bif op==20 then(⟨⟨#[99,97,108,108]⟩,2,2,1,false,false,false⟩,true)else
 bif op==21 then(⟨⟨#[106,111,105,110]⟩,0,1,2,true,false,false⟩,true)else
 bif op==22 then(⟨⟨#[115,105,103,110,97,108]⟩,2,0,1,true,false,false⟩,true)else
 bif op==23 then(⟨⟨#[112,111,108,108]⟩,2,0,2,false,false,false⟩,true)else
 bif op==24 then(⟨⟨#[97,115,107,101,100]⟩,0,0,1,false,false,false⟩,true)else
 bif op==25 then(⟨⟨#[114,101,116,117,114,110]⟩,0,1,0,false,true,false⟩,true)else
 bif op==26 then(⟨⟨#[102,97,105,108]⟩,2,0,0,false,true,false⟩,true)else
 bif op==27 then(⟨⟨#[97,103,97,105,110]⟩,0,1,0,false,true,false⟩,true)else
 bif op==28 then(⟨⟨#[101,105,116,104,101,114]⟩,2,1,2,true,false,false⟩,true)else
 bif op==29 then(⟨⟨#[112,97,99,107]⟩,5,0,1,false,false,false⟩,true)else
 bif op==30 then(⟨⟨#[105,116,101,109]⟩,0,2,1,false,false,false⟩,true)else
 bif op==31 then(⟨⟨#[115,105,122,101]⟩,0,1,1,false,false,false⟩,true)else
 bif op==32 then(⟨⟨#[99,97,116]⟩,0,2,1,false,false,false⟩,true)else
 (⟨⟨#[]⟩,0,0,0,false,false,false⟩,false)
def ofL (op:Int):Inf×Bool:=
 bif op==0 then(⟨⟨#[110,111,112]⟩,0,0,0,false,false,false⟩,true)else
 bif op==1 then(⟨⟨#[112,117,115,104]⟩,1,0,1,false,false,false⟩,true)else
 bif op==2 then(⟨⟨#[112,111,112]⟩,0,1,0,false,false,false⟩,true)else
 bif op==3 then(⟨⟨#[100,117,112]⟩,0,1,2,false,false,false⟩,true)else
 bif op==4 then(⟨⟨#[115,119,97,112]⟩,0,2,2,false,false,false⟩,true)else
 bif op==5 then(⟨⟨#[97,100,100]⟩,0,2,1,false,false,false⟩,true)else
 bif op==6 then(⟨⟨#[115,117,98]⟩,0,2,1,false,false,false⟩,true)else
 bif op==7 then(⟨⟨#[109,117,108]⟩,0,2,1,false,false,false⟩,true)else
 bif op==8 then(⟨⟨#[115,97,109,101]⟩,0,2,1,false,false,false⟩,true)else
 bif op==9 then(⟨⟨#[108,101,115,115]⟩,0,2,1,false,false,false⟩,true)else
 bif op==10 then(⟨⟨#[110,111,116]⟩,0,1,1,false,false,false⟩,true)else
 bif op==11 then(⟨⟨#[106,117,109,112]⟩,4,0,0,false,false,true⟩,true)else
 bif op==12 then(⟨⟨#[117,110,108,101,115,115]⟩,4,1,0,false,false,true⟩,true)else
 bif op==13 then(⟨⟨#[108,111,97,100]⟩,3,0,1,false,false,false⟩,true)else
 bif op==14 then(⟨⟨#[115,116,111,114,101]⟩,3,1,0,false,false,false⟩,true)else
 bif op==15 then(⟨⟨#[105,110,112,117,116]⟩,0,0,1,false,false,false⟩,true)else
 bif op==16 then(⟨⟨#[110,111,119]⟩,0,0,1,false,false,false⟩,true)else
 waitsL op
end Go.Va
namespace Go.Proofs.YtakljipkaoahnaaGreatDoor
open Go.RowKit Go.Own Go.Own.MapTy Go.Va
open Go.Own.Cells (sz enc)
set_option maxHeartbeats 4000000 in
theorem waits_any (op:Int)(w:World):Calls Tryz.prog 111 #[.int .i64 op] w fun e w'=>e= .returned (.tuple #[.agg (waitsL op).1.cells,.bool (waitsL op).2])∧Below w.heap.size w w':=by
 go_enter Tryz.func111,Tryz.ntmps111
 go_wp2_with fail
 all_goals
  refine bodyPost_ret (v:=.tuple #[.agg (waitsL op).1.cells,.bool (waitsL op).2]) ?_ rfl ⟨rfl,zal⟩
  simp only[waitsL, *,cond_true,cond_false,Inf.cells]
  simp only[results,Tryz.results111]
  go_simp
set_option maxHeartbeats 4000000 in
theorem of_any (op:Int)(w:World):Calls Tryz.prog 73 #[.int .i64 op] w fun e w'=>e= .returned (.tuple #[.agg (ofL op).1.cells,.bool (ofL op).2])∧Below w.heap.size w w':=by
 go_enter Tryz.func73,Tryz.ntmps73
 go_wp2_with fail
 all_goals try
  refine bodyPost_ret (v:=.tuple #[.agg (ofL op).1.cells,.bool (ofL op).2]) ?_ rfl ⟨rfl,zal⟩
  simp only[ofL, *,cond_true,cond_false,Inf.cells]
  simp only[results,Tryz.results73]
  go_simp
 have e:ofL op=waitsL op:=by simp only[ofL, *,cond_false]
 refine(waits_any op _).mono ?_
 rintro e w1 ⟨rfl,hB⟩
 generalize hp:waitsL op=p at*
 obtain⟨x,b⟩:=p
 have hh:w1.heap[w.heap.size]? =some (.cells #[.string .empty,.int .i64 0,.int .i64 0,.int .i64 0,.bool false,.bool false,.bool false] 148):=by
  refine((zkb hB).block (S:=fun _=>False) w.heap.size (by simp) (fun f=>f)).trans (World.alloc_heap_new _ _)
 have c0:=zca hh 0 rfl
 have c1:=zca hh 1 rfl
 have c2:=zca hh 2 rfl
 have c3:=zca hh 3 rfl
 have c4:=zca hh 4 rfl
 have c5:=zca hh 5 rfl
 have c6:=zca hh 6 rfl
 have f0:∀o,w1.frozen? ⟨w.heap.size,o,none⟩=false:=fun o=>zfr hh o
 simp only[Inf.cells]
 clear hh
 go_wp2_with fail
 refine bodyPost_ret (v:=.tuple #[.agg (ofL op).1.cells,.bool (ofL op).2]) ?_ rfl ⟨rfl,?_⟩
 ·rw[e]
  simp only[results,Tryz.results73,Inf.cells]
  go_simp
 ·have hB0:=((Below.refl w.heap.size w).alloc (Nat.le_refl _) _).trans (hB.mono (by simp))
  exact((((((hB0.setCell (Nat.le_refl _) _).setCell (Nat.le_refl _) _).setCell (Nat.le_refl _) _).setCell (Nat.le_refl _) _).setCell (Nat.le_refl _) _).setCell (Nat.le_refl _) _).setCell (Nat.le_refl _) _
def findFrom (name:ByteArray):Nat→Nat→Option Nat
 |0,_=>none
 |n+1,k=>bif (ofL k).2&&(ofL k).1.name.data.toList==name.data.toList then some k else findFrom name n (k+1)
def findL (name:ByteArray):Option Nat:=findFrom name 33 0
def findV (r:Option Nat):Value:=.tuple #[.int .i64 (r.getD 0:Nat),.bool r.isSome]
set_option maxHeartbeats 4000000 in
theorem find_op (name:ByteArray)(w:World):Calls Tryz.prog 86 #[.string name] w fun e w'=>e= .returned (findV (findL name))∧Below w.heap.size w w':=by
 go_enter Tryz.func86,Tryz.ntmps86
 go_wp2_with fail
 go_loopw [7] (fun v7 wr=>∃k:Nat,v7= .int .i64 k∧k≤33∧Below w.heap.size w wr∧findFrom name (33 - k) k=findL name) (fun v7 _=>33 - (intOf v7).toNat)
 case atStart=>exact⟨0,rfl,Nat.zero_le _,Below.refl _ _,rfl⟩
 case round=>
  obtain⟨k,rfl,hk,hB,hf⟩:=hrel
  by_cases hkn:k<33
  ·have e0:((k:Int)<33):=by omega
   have OF:=zhd (of_any k wr)
   have HB:=zh2 hB hf
   clear hB hf
   go_wp2_with fail
   refine OF.out.mono ?_
   rintro e w1 ⟨rfl,hB1⟩
   have hh:=zhd hB1
   clear hB1
   generalize hp:ofL k=p
   obtain⟨x,b⟩:=p
   simp only[Inf.cells]
   have hst:findFrom name (33 - k) k=bif b&&x.name.toList==name.toList then some k else findFrom name (33 - (k+1)) (k+1):=by
    have e1:33 - k=(33 - (k+1))+1:=by omega
    rw[e1,findFrom,hp,ByteArray.toList_eq,ByteArray.toList_eq]
   have hst:=zhd hst
   clear hp
   cases b<;>cases hn:x.name.toList==name.toList
   all_goals go_wp2_with fail
   all_goals have hB:=hh.out.mono HB.out.1.size
   all_goals have hB2:=(HB.out.1.trans hB).alloc (Nat.le_trans HB.out.1.size hh.out.size) (.cells #[.string x.name,.int .i64 x.operand,.int .i64 x.i,.int .i64 x.o,.bool x.blocks,.bool x.ends,.bool x.flow] 148)
   all_goals try
    refine⟨⟨k+1,by simp,by omega,hB2,?_⟩,by simp[intOf];omega⟩
    rw[←HB.out.2,hst.out,hn]
    rfl
   refine bodyPost_ret (v:=findV (findL name)) ?_ rfl ⟨rfl,hB2⟩
   rw[←HB.out.2,hst.out,hn]
   simp only[results,Tryz.results86,findV]
   go_simp
  ·obtain rfl:k=33:=by omega
   have HB:=zh2 hB hf
   clear hB hf
   go_wp2_with fail
   refine bodyPost_ret (v:=findV (findL name)) ?_ rfl ⟨rfl,HB.out.1⟩
   rw[←HB.out.2,show 33 - 33=0 from rfl,findFrom]
   simp only[results,Tryz.results86,findV]
   go_simp
end Go.Proofs.YtakljipkaoahnaaGreatDoor
