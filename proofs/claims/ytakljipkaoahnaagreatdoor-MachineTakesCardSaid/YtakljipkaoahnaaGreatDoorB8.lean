/- Parts of the proof: what the functions and the plain laws give that later parts lean on. Conditions: none beyond those that each theorem names. -/
import Derived.Test.YtakljipkaoahnaaGreatDoorB7
set_option maxRecDepth 100000
set_option maxHeartbeats 8000000
namespace Go.Va
open Go.Own Go.RowKit
open Cells (sz enc)
theorem run_slice_to3 {P:Program}{t e:TypeId}{i:TypeInfo}(ht:P.underlying t=some (.slice e))(hi:P.info? e=some i){ad:Option Addr}{k n cap:Nat}(hn:n≤cap)(W:World):
 (Instr.slice t (.slice ad k cap) none (some (.int .i64 n)) (some (.int .i64 n))).run P W= .ok (.slice ad n n) W:=by
 have ha:ad.map (fun a=>a.add 0)=ad:=by cases ad<;>simp[Addr.add]
 simp[Instr.slice,run_underlying ht,Instr.sliceBounds,Instr.sliceBound,asIntOf,hn,sizeOf,typeInfo,hi,Result.andThen,ha]
theorem RowAt.pre3 {α:Type}[Cells α]{w:World}{e:TypeId}{xs:List α}{ad:Option Addr}{k cap:Nat}(h:RowAt w e (.slice ad k cap) xs){n:Nat}(hn:n≤xs.length):
 n≤cap∧RowAt w e (.slice ad n n) (xs.take n):=by
 rcases h with⟨h,rfl⟩|⟨g',off',cap',cur,hv,hg,h1,h2,h3,hc⟩
 ·cases h
  simp at hn
  subst hn
  exact⟨Nat.le_refl _,.inl ⟨rfl,rfl⟩⟩
 ·cases hv
  have hl:(xs.take n).length=n:=by simp;omega
  refine⟨by omega,.inr ⟨g',off',n,cur,by rw[hl],hg,by omega,by omega,?_,fun j u hu=>hc j u ?_⟩⟩
  ·have:n*sz α≤cap*sz α:=Nat.mul_le_mul_right _ (by omega)
   omega
  ·rw[←List.take_append_drop n xs,List.flatMap_append]
   exact(List.getElem?_append_left (zge hu).1).trans hu
theorem cut_to3 {α:Type}[Cells α]{P:Program}{t e:TypeId}{bytes:Nat}(E:ElemOf α P t e bytes){w:World}{ad:Option Addr}{n cap:Nat}{xs:List α}(h:RowAt w e (.slice ad n cap) xs){k:Nat}(hk:k≤xs.length):
 (∀W:World,(Instr.slice t (.slice ad n cap) none (some (.int .i64 k)) (some (.int .i64 k))).run P W= .ok (.slice ad k k) W)∧RowAt w e (.slice ad k k) (xs.take k):=by
 obtain⟨i,z,hi,h1,h2,h3,h4⟩:=E.hi
 obtain⟨a,b⟩:=RowAt.pre3 h hk
 exact⟨fun W=>run_slice_to3 E.ht hi a W,b⟩
def Ptw {α β:Type}[Cells α][Elt α β](F:Nat→Prop)(w:World)(cs:List α)(l:List β):Prop:=
 cs.length=l.length∧∀(i:Nat) (c:α) (x:β),cs[i]? =some c→l[i]? =some x→Elt.rel F w c x
section
variable{α β:Type} [Cells α] [Elt α β] {F G S:Nat→Prop} {w w':World} {e:TypeId} {v:Value} {l m:List β} {cs ds:List α}
theorem XRow.cells (h:XRow F w e v l):∃cs:List α,RowAt w e v cs∧Ptw F w cs l:=by
 obtain⟨cs,h1,h2,h3⟩:=h
 exact⟨cs,h1,h2,h3⟩
theorem XRow.of (h:RowAt w e v cs)(p:Ptw F w cs l):XRow F w e v l:=⟨cs,h,p.1,p.2⟩
theorem Ptw.nil:Ptw (α:=α) F w [] ([]:List β):=⟨rfl,fun i c x h=>by simp at h⟩
theorem Ptw.one {c:α}{x:β}(h:Elt.rel F w c x):Ptw F w [c] [x]:=⟨rfl,fun i c' x' hc hx=>by
 match i with
 |0=>simp at hc hx;subst hc hx;exact h
 |i+1=>simp at hc⟩
theorem Ptw.app (h:Ptw F w cs l)(k:Ptw F w ds m):Ptw F w (cs++ds) (l++m):=by
 refine⟨by rw[List.length_append,List.length_append,h.1,k.1],fun i c x hc hx=> ?_⟩
 by_cases hi:i<cs.length
 ·rw[List.getElem?_append_left hi]at hc
  rw[List.getElem?_append_left (by rw[←h.1];exact hi)]at hx
  exact h.2 i c x hc hx
 ·rw[List.getElem?_append_right (by omega)]at hc
  rw[List.getElem?_append_right (by rw[←h.1];omega),←h.1]at hx
  exact k.2 _ c x hc hx
theorem Ptw.take (h:Ptw F w cs l)(n:Nat):Ptw F w (cs.take n) (l.take n):=by
 refine⟨by simp[h.1],fun i c x hc hx=> ?_⟩
 rw[List.getElem?_take]at hc hx
 by_cases hi:i<n
 ·rw[if_pos hi]at hc hx
  exact h.2 i c x hc hx
 ·rw[if_neg hi]at hc
  cases hc
theorem Ptw.drop (h:Ptw F w cs l)(n:Nat):Ptw F w (cs.drop n) (l.drop n):=by
 refine⟨by simp[h.1],fun i c x hc hx=> ?_⟩
 rw[List.getElem?_drop]at hc hx
 exact h.2 _ c x hc hx
theorem Ptw.erase (h:Ptw F w cs l)(i:Nat):Ptw F w (cs.take i++cs.drop (i+1)) (l.eraseIdx i):=by
 rw[List.eraseIdx_eq_take_drop_succ]
 exact(h.take i).app (h.drop (i+1))
theorem Ptw.pop (h:Ptw F w cs l):Ptw F w (cs.take (cs.length - 1)) l.dropLast:=by
 rw[List.dropLast_eq_take,←h.1]
 exact h.take _
theorem Ptw.set (h:Ptw F w cs l)(i:Nat){c:α}{x:β}(hr:Elt.rel F w c x):Ptw F w (cs.set i c) (l.set i x):=by
 refine⟨by simp[h.1],fun j c' x' hc hx=> ?_⟩
 rw[List.getElem?_set]at hc hx
 by_cases hj:i=j
 ·rw[if_pos hj]at hc hx
  split at hc
  ·split at hx
   ·cases hc;cases hx;exact hr
   ·cases hx
  ·cases hc
 ·rw[if_neg hj]at hc hx
  exact h.2 j c' x' hc hx
theorem Ptw.keep (h:Ptw F w cs l)(K:Keeps S w w')(hs:∀g,F g→¬S g):Ptw F w' cs l:=⟨h.1,fun i c x hc hx=>Elt.keep (h.2 i c x hc hx) K hs⟩
theorem Ptw.mono (h:Ptw F w cs l)(hs:∀g,F g→g<w.heap.size→G g):Ptw G w cs l:=⟨h.1,fun i c x hc hx=>Elt.mono (h.2 i c x hc hx) hs⟩
theorem Ptw.get (h:Ptw F w cs l){i:Nat}{x:β}(hx:l[i]? =some x):∃c,cs[i]? =some c∧Elt.rel F w c x:=by
 obtain⟨c,hc⟩:=elem_at (l:=cs) (k:=i) (by rw[h.1];exact(zge hx).1)
 exact⟨c,hc,h.2 i c x hc hx⟩
end
section
variable{T:MT} {Z:Nat→Prop} {W w1:World} {b:Nat} {v:MV} {p:Img} {s:MS} {v1:Value}
theorem MX.putStk (M:MX T Z W b v p s){cs:List VC}{l1:List Val}(s':MS)(hr:RowAt w1 T.v v1 cs)(hp:Ptw (MZ Z v b) W cs l1)(K:Keeps (fun j=>v.ss.ownBlock=some j) W w1)(hf:∀g,v1.ownBlock=some g→v.ss.ownBlock=some g∨W.heap.size≤g)(hs':s'={s with stk:=l1}):
 MX T Z (w1.setCell ⟨b,0,none⟩ v1) b {v with ss:=v1} p s'∧MK b v W {v with ss:=v1} (w1.setCell ⟨b,0,none⟩ v1):=by
 refine M.setStk s' (XRow.of hr ?_) K hf hs'
 refine((hp.mono (G:=fun g=>MZ Z v b g∧¬v1.ownBlock=some g) (fun g hg hl=>⟨hg,fun e=> ?_⟩)).keep K (fun g hg e=>hg.1.1 ⟨1,e⟩))
 rcases hf g e with h|h
 ·exact hg.1 ⟨1,h⟩
 ·omega
theorem MX.putPls (M:MX T Z W b v p s){cs:List VC}{l1:List Val}(s':MS)(hr:RowAt w1 T.v v1 cs)(hp:Ptw (MZ Z v b) W cs l1)(K:Keeps (fun j=>v.ps.ownBlock=some j) W w1)(hf:∀g,v1.ownBlock=some g→v.ps.ownBlock=some g∨W.heap.size≤g)(hs':s'={s with places:=l1}):
 MX T Z (w1.setCell ⟨b,5,none⟩ v1) b {v with ps:=v1} p s'∧MK b v W {v with ps:=v1} (w1.setCell ⟨b,5,none⟩ v1):=by
 refine M.setPls s' (XRow.of hr ?_) K hf hs'
 refine((hp.mono (G:=fun g=>MZ Z v b g∧¬v1.ownBlock=some g) (fun g hg hl=>⟨hg,fun e=> ?_⟩)).keep K (fun g hg e=>hg.1.1 ⟨2,e⟩))
 rcases hf g e with h|h
 ·exact hg.1 ⟨2,h⟩
 ·omega
theorem MX.putTms (M:MX T Z W b v p s){cs:List TC}{l1:List Th}(s':MS)(hr:RowAt w1 T.t v1 cs)(hp:Ptw (MZ Z v b) W cs l1)(K:Keeps (fun j=>v.ts.ownBlock=some j) W w1)(hf:∀g,v1.ownBlock=some g→v.ts.ownBlock=some g∨W.heap.size≤g)(hs':s'={s with timers:=⟨l1,s.timers.next⟩}):
 MX T Z (w1.setCell ⟨b,12,none⟩ v1) b {v with ts:=v1} p s'∧MK b v W {v with ts:=v1} (w1.setCell ⟨b,12,none⟩ v1):=by
 refine M.setTms s' (XRow.of hr ?_) K hf hs'
 refine((hp.mono (G:=fun g=>MZ Z v b g∧¬v1.ownBlock=some g) (fun g hg hl=>⟨hg,fun e=> ?_⟩)).keep K (fun g hg e=>hg.1.1 ⟨3,e⟩))
 rcases hf g e with h|h
 ·exact hg.1 ⟨3,h⟩
 ·omega
theorem MX.putAcs (M:MX T Z W b v p s){cs:List TC}{l1:List Th}(s':MS)(hr:RowAt w1 T.t v1 cs)(hp:Ptw (MZ Z v b) W cs l1)(K:Keeps (fun j=>v.as_.ownBlock=some j) W w1)(hf:∀g,v1.ownBlock=some g→v.as_.ownBlock=some g∨W.heap.size≤g)(hs':s'={s with acts:=⟨l1,s.acts.next⟩}):
 MX T Z (w1.setCell ⟨b,14,none⟩ v1) b {v with as_:=v1} p s'∧MK b v W {v with as_:=v1} (w1.setCell ⟨b,14,none⟩ v1):=by
 refine M.setAcs s' (XRow.of hr ?_) K hf hs'
 refine((hp.mono (G:=fun g=>MZ Z v b g∧¬v1.ownBlock=some g) (fun g hg hl=>⟨hg,fun e=> ?_⟩)).keep K (fun g hg e=>hg.1.1 ⟨4,e⟩))
 rcases hf g e with h|h
 ·exact hg.1 ⟨4,h⟩
 ·omega
theorem MX.putLts (M:MX T Z W b v p s){cs:List LC}{l1:List Lt}(s':MS)(hr:RowAt w1 T.l v1 cs)(hp:Ptw (MZ Z v b) W cs l1)(K:Keeps (fun j=>v.ls.ownBlock=some j) W w1)(hf:∀g,v1.ownBlock=some g→v.ls.ownBlock=some g∨W.heap.size≤g)(hs':s'={s with letters:=l1}):
 MX T Z (w1.setCell ⟨b,16,none⟩ v1) b {v with ls:=v1} p s'∧MK b v W {v with ls:=v1} (w1.setCell ⟨b,16,none⟩ v1):=by
 refine M.setLts s' (XRow.of hr ?_) K hf hs'
 refine((hp.mono (G:=fun g=>MZ Z v b g∧¬v1.ownBlock=some g) (fun g hg hl=>⟨hg,fun e=> ?_⟩)).keep K (fun g hg e=>hg.1.1 ⟨5,e⟩))
 rcases hf g e with h|h
 ·exact hg.1 ⟨5,h⟩
 ·omega
theorem MX.putMds (M:MX T Z W b v p s){cs:List CC}{l1:List Cm}(s':MS)(hr:RowAt w1 T.c v1 cs)(hp:Ptw (MZ Z v b) W cs l1)(K:Keeps (fun j=>v.ms.ownBlock=some j) W w1)(hf:∀g,v1.ownBlock=some g→v.ms.ownBlock=some g∨W.heap.size≤g)(hs':s'={s with made:=l1}):
 MX T Z (w1.setCell ⟨b,21,none⟩ v1) b {v with ms:=v1} p s'∧MK b v W {v with ms:=v1} (w1.setCell ⟨b,21,none⟩ v1):=by
 refine M.setMds s' (XRow.of hr ?_) K hf hs'
 refine((hp.mono (G:=fun g=>MZ Z v b g∧¬v1.ownBlock=some g) (fun g hg hl=>⟨hg,fun e=> ?_⟩)).keep K (fun g hg e=>hg.1.1 ⟨6,e⟩))
 rcases hf g e with h|h
 ·exact hg.1 ⟨6,h⟩
 ·omega
theorem MZ.step {v':MV}{w':World}(K:MK b v W v' w'){g:Nat}(h:MZ Z v b g)(hl:g<W.heap.size):MZ Z v' b g:=⟨fun e=>(K.own g e).elim h.1 (fun q=>by omega),h.2⟩
theorem CF.step {v':MV}{w':World}{c:VC}{x:Val}(K:MK b v W v' w')(h:CF (MZ Z v b) W c x):CF (MZ Z v' b) w' c x:=
 ((h.mono (G:=fun g=>MZ Z v b g∧MZ Z v' b g) (fun _ hg hl=>⟨hg,MZ.step K hg hl⟩)).keep K.keeps (fun _ hg e=>hg.1.1 e)).mono (fun _ hg _=>hg.2)
theorem MX.cut (M:MX T Z W b v p s):MX T (fun j=>Z j∧j<W.heap.size) W b v p s:=M.monoZ (fun _ h l=>⟨h,l⟩)
theorem MX.late {N:Nat}{W':World}(M:MX T (fun j=>Z j∧j<N) W b v p s)(hN:∀j,MO v b j→j<N)(K:Keeps (fun j=>N≤j) W W'):MX T Z W' b v p s:=
 ((M.far K (fun j _ e=>by have:=hN j e;omega) (fun _ h e=>by have:=e.2;omega))).monoZ (fun _ h _=>h.1)
theorem MK.late {v':MV}{w1 w2:World}(K:MK b v W v' w1)(L:Keeps (fun j=>W.heap.size≤j) w1 w2):MK b v W v' w2:=
 ⟨K.keeps.trans L (fun j hj e=>by omega),K.own⟩
theorem cf_int (F:Nat→Prop)(w:World)(n:Int):CF F w ⟨1,n,⟨#[]⟩,none,0,0⟩ (vInt n):=⟨rfl,rfl,rfl,VF.nil _ _⟩
theorem cf_bool (F:Nat→Prop)(w:World)(x:Bool):CF F w ⟨1,bif x then 1 else 0,⟨#[]⟩,none,0,0⟩ (vBool x):=⟨rfl,rfl,rfl,VF.nil _ _⟩
theorem cf_text (F:Nat→Prop)(w:World)(t:ByteArray):CF F w ⟨2,0,t,none,0,0⟩ (vText t):=⟨rfl,rfl,rfl,VF.nil _ _⟩
theorem cf_nil0 (F:Nat→Prop)(w:World):CF F w ⟨0,0,⟨#[]⟩,none,0,0⟩ vNil0:=⟨rfl,rfl,rfl,VF.nil _ _⟩
theorem hZ_step {w':World}(hZ:∀j,W.heap.size≤j→Z j)(h:W.heap.size≤w'.heap.size):∀j,w'.heap.size≤j→Z j:=fun j hj=>hZ j (Nat.le_trans h hj)
end
end Go.Va
namespace Go.Proofs.YtakljipkaoahnaaGreatDoor
open Go.RowKit Go.Own Go.Own.MapTy Go.Va Go.Sort
open Go.Own.Cells (sz enc)
def TT:MT:=⟨124,39,180,130,68⟩
def MP (Z:Nat→Prop)(W:World)(b:Nat)(v:MV)(p:Img)(r:Value)(s':MS)(e:Ending)(w':World):Prop:=∃v',e= .returned r∧Hid (MX TT Z w' b v' p s'∧MK b v W v' w')
def MPV (Z:Nat→Prop)(W:World)(b:Nat)(v:MV)(p:Img)(x:Val)(s':MS)(e:Ending)(w':World):Prop:=∃(v':MV) (c:VC),e= .returned (.agg #[.int .i64 c.kind,.int .i64 c.n,.string c.s,.slice c.la c.ln c.lc])∧Hid (MX TT Z w' b v' p s'∧MK b v W v' w'∧CF (MZ Z v' b) w' c x)
theorem vtext_any (t:ByteArray)(w:World):Calls Tryz.prog 59 #[.string t] w (fun e w'=>e= .returned (.agg #[.int .i64 2,.int .i64 0,.string t,.slice none 0 0])∧Below w.heap.size w w'):=by
 go_enter Tryz.func59,Tryz.ntmps59
 go_wp2_with fail
 exact bodyPost_ret (v:=.agg #[.int .i64 2,.int .i64 0,.string t,.slice none 0 0]) (by simp only[results,Tryz.results59];go_simp) rfl ⟨rfl,Keeps.below (S:=fun _=>False) (((Keeps.refl _ _).alloc _)) (Nat.le_refl _) (fun _ _ f=>f)⟩
theorem bool_any (x:Bool)(w:World):Calls Tryz.prog 138 #[.bool x] w (fun e w'=>e= .returned (.agg #[.int .i64 1,.int .i64 (bif x then 1 else 0),.string ⟨#[]⟩,.slice none 0 0])∧Below w.heap.size w w'):=by
 have OF:=zhd (vof_any (bif x then 1 else 0))
 cases x
 all_goals
  simp only[cond_true,cond_false]at OF⊢
  go_enter Tryz.func138,Tryz.ntmps138
  go_wp2_with fail
  refine(OF.out _).mono ?_
  rintro e w5 ⟨rfl,hB5⟩
  have b5:=(hB5.block w.heap.size (by simp)).trans (heap_alloc_new w _)
  have H5:=zhd (((Below.refl w.heap.size w).alloc (Nat.le_refl _) (.cells #[.int .i64 0,.int .i64 0,.string ⟨#[]⟩,.slice none 0 0] 39)).trans (hB5.mono (by simp)))
  have f0:=fun o=>zfr b5 o
  have l5:=zlt b5
  have q:∀o,w5.cell? ⟨w.heap.size,o,none⟩=(#[.int .i64 0,.int .i64 0,.string ⟨#[]⟩,.slice none 0 0]:Array Value)[o]? :=fun o=>zch b5 _
  have q0:=q 0
  have q1:=q 1
  have q2:=q 2
  have q3:=q 3
  simp only[List.getElem?_toArray,List.getElem?_cons_zero,List.getElem?_cons_succ]at q0 q1 q2 q3
  clear q b5 hB5
  go_wp2_with fail
 ·exact bodyPost_ret (v:=.agg #[.int .i64 1,.int .i64 0,.string ⟨#[]⟩,.slice none 0 0]) (by simp only[results,Tryz.results138];go_simp) rfl ⟨rfl,below4 H5.out _ _ _ _⟩
 ·exact bodyPost_ret (v:=.agg #[.int .i64 1,.int .i64 1,.string ⟨#[]⟩,.slice none 0 0]) (by simp only[results,Tryz.results138];go_simp) rfl ⟨rfl,below4 H5.out _ _ _ _⟩
theorem true_any (x:Val)(ck cn:Int)(cs:ByteArray)(la:Option Addr)(ln lc:Nat)(F:Nat→Prop)(w:World)(C:CF F w ⟨ck,cn,cs,la,ln,lc⟩ x)(r:Bool)(hr:trueV x=r):Calls Tryz.prog 135 #[.agg #[.int .i64 ck,.int .i64 cn,.string cs,.slice la ln lc]] w (fun e w'=>e= .returned (.bool r)∧Below w.heap.size w w'):=by
 have h1:ck=x.kind:=C.kind
 have h2:cn=x.num:=C.n
 have h3:cs=x.txt:=C.s
 have h4:ln=x.list.length:=C.l.elem.1
 unfold trueV at hr
 rw[←h1,←h2,←h3,←h4]at hr
 clear C h1 h2 h3 h4
 by_cases k1:ck=1
 ·subst k1
  have hr:(cn !=0)=r:=hr
  have HR:=zhd hr
  cases hn:(cn !=0)with
  |true=>
   rw[hn]at hr
   subst hr
   clear HR
   go_enter Tryz.func135,Tryz.ntmps135
   go_wp2_with fail
   go_ret
   exact⟨rfl,zal⟩
  |false=>
   rw[hn]at hr
   subst hr
   clear HR
   go_enter Tryz.func135,Tryz.ntmps135
   go_wp2_with fail
   go_ret
   exact⟨rfl,zal⟩
 ·have e1:(ck==1)=false:=by rw[beq_eq_false_iff_ne];exact k1
  rw[e1]at hr
  simp only[cond_false]at hr
  by_cases k2:ck=2
  ·subst k2
   have hr:(cs.size !=0)=r:=hr
   have hq:cs.toList.isEmpty= !r:=by
    rw[←hr,ByteArray.toList_eq]
    by_cases h0:cs.size=0
    ·have:cs.data.toList=[]:=List.length_eq_zero_iff.1 (by simpa using h0)
     rw[this,h0];rfl
    ·have e2:(cs.size !=0)=true:=by simpa using h0
     rw[e2,Bool.not_true,List.isEmpty_eq_false_iff]
     exact fun e=>h0 (by have:=congrArg List.length e;simpa using this)
   clear hr
   go_enter Tryz.func135,Tryz.ntmps135
   go_wp2_with fail
   go_ret
   exact⟨by first|rfl|(rw[←Bool.not_not r];rfl)|(simp;done),zal⟩
  ·have e2:(ck==2)=false:=by rw[beq_eq_false_iff_ne];exact k2
   rw[e2]at hr
   simp only[cond_false]at hr
   by_cases k3:ck=3
   ·subst k3
    have hr:decide (0<ln)=r:=hr
    have hq:decide ((0:Int)<(ln:Int))=r:=by rw[←hr];simp
    go_enter Tryz.func135,Tryz.ntmps135
    go_wp2_with fail
    go_ret
    exact⟨by first|rfl|rw[hr]|rw[hq],zal⟩
   ·have e3:(ck==3)=false:=by rw[beq_eq_false_iff_ne];exact k3
    rw[e3]at hr
    have hr:false=r:=hr
    subst hr
    go_enter Tryz.func135,Tryz.ntmps135
    go_wp2_with fail
    go_ret
    exact⟨rfl,zal⟩
theorem push_end {Z:Nat→Prop}{W wx w1:World}{b n g1 off1 cp cap:Nat}{a:Option Addr}{v:MV}{p:Img}{s:MS}{x:Val}{c z:VC}{ks:List VC}(M:MX TT Z W b v p s)(hv:v.ss= .slice a n cap)(hn:ks.length=n)(hP:Ptw (MZ Z v b) W ks s.stk)(C:CF (MZ Z v b) W c x)(B0:Below W.heap.size W wx)
 (hr:RowAt w1 39 (.slice (some ⟨g1,off1,none⟩) (n+1) cp) (ks++[z]))(hk:Keeps (fun j=>(Value.slice a n cap).ownBlock=some j) wx w1)(hf:∀g,(Value.slice (some ⟨g1,off1,none⟩) (n+1) cp).ownBlock=some g→(Value.slice a n cap).ownBlock=some g∨wx.heap.size≤g):
 MX TT Z (((((w1.setCell ⟨g1,off1+n*4,none⟩ (.int .i64 c.kind)).setCell ⟨g1,off1+n*4+1,none⟩ (.int .i64 c.n)).setCell ⟨g1,off1+n*4+2,none⟩ (.string c.s)).setCell ⟨g1,off1+n*4+3,none⟩ (.slice c.la c.ln c.lc)).setCell ⟨b,0,none⟩ (.slice (some ⟨g1,off1,none⟩) (n+1) cp)) b {v with ss:=.slice (some ⟨g1,off1,none⟩) (n+1) cp} p (s.push x)∧
 MK b v W {v with ss:=.slice (some ⟨g1,off1,none⟩) (n+1) cp} (((((w1.setCell ⟨g1,off1+n*4,none⟩ (.int .i64 c.kind)).setCell ⟨g1,off1+n*4+1,none⟩ (.int .i64 c.n)).setCell ⟨g1,off1+n*4+2,none⟩ (.string c.s)).setCell ⟨g1,off1+n*4+3,none⟩ (.slice c.la c.ln c.lc)).setCell ⟨b,0,none⟩ (.slice (some ⟨g1,off1,none⟩) (n+1) cp)):=by
 have hs:=hr.set (i:=n) (by simp;omega) c
 have el:(ks++[z]).set n c=ks++[c]:=by
  rw[List.set_append_right _ _ (by omega),show n - ks.length=0 from by omega]
  rfl
 rw[el]at hs
 have hs':RowAt ((((w1.setCell ⟨g1,off1+n*4,none⟩ (.int .i64 c.kind)).setCell ⟨g1,off1+n*4+1,none⟩ (.int .i64 c.n)).setCell ⟨g1,off1+n*4+2,none⟩ (.string c.s)).setCell ⟨g1,off1+n*4+3,none⟩ (.slice c.la c.ln c.lc)) 39 (.slice (some ⟨g1,off1,none⟩) (n+1) cp) (ks++[c]):=hs
 have hg:(Value.slice a n cap).ownBlock=some g1∨wx.heap.size≤g1:=hf g1 rfl
 have K4:Keeps (fun j=>(Value.slice a n cap).ownBlock=some j) wx ((((w1.setCell ⟨g1,off1+n*4,none⟩ (.int .i64 c.kind)).setCell ⟨g1,off1+n*4+1,none⟩ (.int .i64 c.n)).setCell ⟨g1,off1+n*4+2,none⟩ (.string c.s)).setCell ⟨g1,off1+n*4+3,none⟩ (.slice c.la c.ln c.lc)):=
  (((hk.setCell (p:=⟨g1,off1+n*4,none⟩) hg _).setCell (p:=⟨g1,off1+n*4+1,none⟩) hg _).setCell (p:=⟨g1,off1+n*4+2,none⟩) hg _).setCell (p:=⟨g1,off1+n*4+3,none⟩) hg _
 have K5:=(zkb (S:=fun _=>False) B0).mono (T:=fun j=>(Value.slice a n cap).ownBlock=some j) (fun _ _ f=>f.elim)
 have K6:=K5.trans K4 (fun _ _ e=>e)
 rw[←hv]at K6
 exact M.putStk (s.push x) hs' (hP.app (Ptw.one C)) K6 (fun g hg=>by
  rw[hv]
  rcases hf g hg with h|h
  ·exact .inl h
  ·exact .inr (Nat.le_trans B0.size h)) rfl
theorem push_any
 {Z:Nat→Prop}(b:Nat)(v:MV)(p:Img)(s:MS)(W:World)(M:MX TT Z W b v p s)
 (x:Val)(ck cn:Int)(cs:ByteArray)(la:Option Addr)(ln lc:Nat)(C:CF (MZ Z v b) W ⟨ck,cn,cs,la,ln,lc⟩ x)(hl:s.stk.length≤4294967296):
 Calls Tryz.prog 137 #[.pointer (some ⟨b,0,none⟩),.agg #[.int .i64 ck,.int .i64 cn,.string cs,.slice la ln lc]] W (MP Z W b v p (.tuple #[]) (s.push x)):=by
 obtain⟨ss,ic,ps,inp,ts,as_,ls,ms⟩:=v
 obtain⟨a,cap,rfl⟩:∃a cap,ss= .slice a s.stk.length cap:=M.stk.slice
 obtain⟨ks,hR,hP⟩:=M.stk.cells
 obtain⟨wr,hwr⟩:∃wr,wr=W.alloc (.cells #[.int .i64 ck,.int .i64 cn,.string cs,.slice la ln lc] 39):=⟨_,rfl⟩
 have hb:=zlt M.h
 have B0:=zba hwr
 have q:∀o,wr.cell? ⟨W.heap.size,o,none⟩=(#[.int .i64 ck,.int .i64 cn,.string cs,.slice la ln lc]:Array Value)[o]? :=fun o=>by rw[hwr,zch (heap_alloc_new _ _)]
 have q0:=q 0
 have q1:=q 1
 have q2:=q 2
 have q3:=q 3
 simp only[List.getElem?_toArray,List.getElem?_cons_zero,List.getElem?_cons_succ]at q0 q1 q2 q3
 have lr:W.heap.size<wr.heap.size:=by rw[hwr];simp
 have b1:b<wr.heap.size:=by omega
 have c1:wr.cell? ⟨b,0,none⟩=some (.slice a s.stk.length cap):=(B0.cell (p:=⟨b,0,none⟩) hb).trans (M.cell (k:=0) rfl)
 have f0:∀o,wr.frozen? ⟨b,o,none⟩=false:=fun o=>(B0.frozen (p:=⟨b,o,none⟩) hb).trans (M.frozen o)
 have nb:∀g,(Value.slice a s.stk.length cap).ownBlock=some g→g≠b∧g≠W.heap.size:=fun g hg=>⟨fun e=>absurd (M.sep 1 0 g hg (by rw[e];rfl)) (by decide),fun e=>by have:=M.stk.lt hg;omega⟩
 have HX:=zh5 M (hR.below B0) hP C B0
 have NB:=zhd nb
 have n6:¬W.heap.size=b:=by omega
 have hKL:=hP.1
 have HBD:=zhd (show(ks.length+[(⟨0,0,⟨#[]⟩,none,0,0⟩:VC)].length)*56≤140737488355328∧ks.length+[(⟨0,0,⟨#[]⟩,none,0,0⟩:VC)].length≤maxLen∧ks.length+[(⟨0,0,⟨#[]⟩,none,0,0⟩:VC)].length=s.stk.length+1 from by unfold maxLen;simp;omega)
 have hix:(s.stk.length:Int)<(s.stk.length:Int)+1:=by omega
 have hi0:(0:Int)≤(s.stk.length:Int):=by omega
 have HKL:=zhd hKL
 clear nb q hR hP C M B0 hKL
 go_enter Tryz.func137,Tryz.ntmps137
 go_wp2_with fail
 rw[←hwr]
 clear hwr
 go_region_law ((refine step_apps (α:=VC) (o:=⟨some 11,_,_,_,_,_⟩) elemV (by rfl) (.tmp 7) (.tmp 10) (by rfl) (v:=.slice a s.stk.length cap) (u:=.slice (some ⟨wr.heap.size,0,none⟩) 1 1) (by rfl) (by rfl) (xs:=ks) (ys:=[⟨0,0,⟨#[]⟩,none,0,0⟩]) ((HX.out.2.1.drew).alloc _) (RowAt.lit (α:=VC) (y:=⟨0,0,⟨#[]⟩,none,0,0⟩) (heap_alloc_new _ _)) HBD.out.1 HBD.out.2.1 (s.stk.length+1) HBD.out.2.2 ?_;intro a1 cp w1 hr1 hk1 hf1;obtain⟨g1,off1,rfl,⟨m0,m1,m2,m3⟩,fm,ob,obf,oB,⟨n1,n2,n3,n4⟩,l1,l2,l3⟩:=app_facts (b:=b) (B:=W.heap.size) HKL.out hr1 hk1 hf1 b1 lr NB.out;have y1:=(ob 0).trans c1;have y2:=(oB 0).trans q0;have y3:=(oB 1).trans q1;have y4:=(oB 2).trans q2;have y5:=(oB 3).trans q3;have y6:=fun o=>(obf o).trans (f0 o);have FF:=zh3 hr1 hk1 hf1;clear hr1 hk1 hf1 ob obf oB))
 all_goals
  obtain⟨w4,hw4⟩:∃w4,w4=((((w1.setCell ⟨g1,off1+s.stk.length*4,none⟩ (.int .i64 ck)).setCell ⟨g1,off1+s.stk.length*4+1,none⟩ (.int .i64 cn)).setCell ⟨g1,off1+s.stk.length*4+2,none⟩ (.string cs)).setCell ⟨g1,off1+s.stk.length*4+3,none⟩ (.slice la ln lc)).setCell ⟨b,0,none⟩ (.slice (some ⟨g1,off1,none⟩) (s.stk.length+1) cp):=⟨_,rfl⟩
  have hw5:w4=((((w1.setCell ⟨b,0,none⟩ (.slice (some ⟨g1,off1,none⟩) (s.stk.length+1) cp)).setCell ⟨g1,off1+s.stk.length*4,none⟩ (.int .i64 ck)).setCell ⟨g1,off1+s.stk.length*4+1,none⟩ (.int .i64 cn)).setCell ⟨g1,off1+s.stk.length*4+2,none⟩ (.string cs)).setCell ⟨g1,off1+s.stk.length*4+3,none⟩ (.slice la ln lc):=by rw[hw4,setCell_comm n1,setCell_comm n1,setCell_comm n1,setCell_comm n1]
  first
  |rw[←hw4]
  |rw[←hw5]
  have S:=push_end (c:=⟨ck,cn,cs,la,ln,lc⟩) (x:=x) HX.out.1 rfl HKL.out HX.out.2.2.1 HX.out.2.2.2.1 ((HX.out.2.2.2.2.drew).alloc (by have:=HX.out.2.2.2.2.size;exact this) _) FF.out.1 FF.out.2.1 FF.out.2.2
  rw[←hw4]at S
  have HS:=zhd S
  clear S hw4 hw5 y1 y2 y3 y4 y5 y6 m0 m1 m2 m3 fm c1 f0 q0 q1 q2 q3
  go_wp2_with fail
  go_end0
  exact⟨_,rfl,zhd HS.out⟩
theorem pop_end {Z:Nat→Prop}{W wx wy:World}{b n cap:Nat}{a:Option Addr}{v:MV}{p:Img}{s:MS}{ks:List VC}{c:VC}{x:Val}(M:MX TT Z W b v p s)(hv:v.ss= .slice a n cap)(hn:s.stk.length=n)(hR:RowAt W 39 (.slice a n cap) ks)(hP:Ptw (MZ Z v b) W ks s.stk)(C:CF (MZ Z v b) W c x)
 (B0:Below W.heap.size W wx)(L:Keeps (fun j=>W.heap.size≤j) (wx.setCell ⟨b,0,none⟩ (.slice a (n - 1) (n - 1))) wy):
 MX TT Z wy b {v with ss:=.slice a (n - 1) (n - 1)} p s.pop∧MK b v W {v with ss:=.slice a (n - 1) (n - 1)} wy∧CF (MZ Z {v with ss:=.slice a (n - 1) (n - 1)} b) wy c x:=by
 have hkn:ks.length=n:=by rw[hP.1,hn]
 obtain⟨h1,h2⟩:=RowAt.pre3 hR (n:=n - 1) (by omega)
 have hP2:=hP.pop
 rw[hkn]at hP2
 have K0:=(zkb (S:=fun _=>False) B0).mono (T:=fun j=>v.ss.ownBlock=some j) (fun _ _ f=>f.elim)
 have hob:∀g,(Value.slice a (n - 1) (n - 1)).ownBlock=some g→v.ss.ownBlock=some g:=fun g hg=>by
  rw[hv]
  cases a with
  |none=>cases hg
  |some ad=>exact hg
 have S:=M.cut.putStk (v1:=.slice a (n - 1) (n - 1)) s.pop (h2.below B0) (hP2.mono (fun g h l=>⟨h.1,h.2,l⟩)) K0 (fun g hg=>.inl (hob g hg)) rfl
 have hMK:=S.2.late L
 refine⟨S.1.late (fun j hj=> ?_) L,hMK,C.step hMK⟩
 rcases S.2.own j hj with h|h
 ·exact M.lt h
 ·rcases MO.turned (v:=v) (i0:=1) (fun i hi=>by
   match i with
   |0=>rfl
   |1=>exact absurd rfl hi
   |2=>rfl
   |3=>rfl
   |4=>rfl
   |5=>rfl
   |6=>rfl
   |_+7=>rfl) hj with h|h
  ·exact M.lt h
  ·exact M.lt ⟨1,hob j h⟩
theorem pop_any
 {Z:Nat→Prop}(b:Nat)(v:MV)(p:Img)(s:MS)(W:World)(M:MX TT Z W b v p s)
 :Calls Tryz.prog 136 #[.pointer (some ⟨b,0,none⟩)] W (MPV Z W b v p s.top s.pop):=by
 obtain⟨ss,ic,ps,inp,ts,as_,ls,ms⟩:=v
 obtain⟨a,cap,rfl⟩:∃a cap,ss= .slice a s.stk.length cap:=M.stk.slice
 obtain⟨ks,hR,hP⟩:=M.stk.cells
 have b1:=zlt M.h
 have c1:W.cell? ⟨b,0,none⟩=some (.slice a s.stk.length cap):=M.cell (k:=0) rfl
 have f0:∀o,W.frozen? ⟨b,o,none⟩=false:=fun o=>M.frozen o
 have HX:=zh3 M hR hP
 by_cases h0:s.stk.length=0
 ·have hs:s.stk=[]:=List.length_eq_zero_iff.1 h0
  have ht:s.top=vNil0:=by unfold MS.top;rw[hs];rfl
  have hp:s.pop=s:=by unfold MS.pop;rw[hs];simp only[List.dropLast_nil];rw[←hs]
  have HT:=zh2 ht hp
  have h0':((s.stk.length:Int)==0)=true:=by rw[beq_iff_eq];omega
  clear hs ht hp hR hP M h0
  go_enter Tryz.func136,Tryz.ntmps136
  go_wp2_with fail
  exact bodyPost_ret (v:=.agg #[.int .i64 0,.int .i64 0,.string ⟨#[]⟩,.slice none 0 0]) (by simp only[results,Tryz.results136];go_simp) rfl ⟨_,⟨0,0,⟨#[]⟩,none,0,0⟩,rfl,zhd (by
   have B:Below W.heap.size W _:=(Below.refl W.heap.size W).alloc (Nat.le_refl _) (.cells #[.int .i64 0,.int .i64 0,.string ⟨#[]⟩,.slice none 0 0] 39)
   rw[HT.out.1,HT.out.2]
   exact⟨HX.out.1.ext B,MK.ext B,cf_nil0 _ _⟩)⟩
 ·obtain⟨n,hn⟩:∃n,s.stk.length=n+1:=⟨s.stk.length - 1,by omega⟩
  obtain⟨x,hx⟩:=elem_at (l:=s.stk) (k:=n) (by omega)
  obtain⟨⟨ck,cn,cs,la,ln,lc⟩,hc,hC⟩:=hP.get hx
  obtain⟨g,off,rfl,hg⟩:=hR.addr hc
  have cc:=fun(j:Nat) (hj:j<4)=>hR.cell hc (j:=j) hj
  have m0:W.cell? ⟨g,off+n*4,none⟩=some (.int .i64 ck):=cc 0 (by decide)
  have m1:W.cell? ⟨g,off+n*4+1,none⟩=some (.int .i64 cn):=by rw[Nat.add_assoc];exact cc 1 (by decide)
  have m2:W.cell? ⟨g,off+n*4+2,none⟩=some (.string cs):=by rw[Nat.add_assoc];exact cc 2 (by decide)
  have m3:W.cell? ⟨g,off+n*4+3,none⟩=some (.slice la ln lc):=by rw[Nat.add_assoc];exact cc 3 (by decide)
  have ht:s.top=x:=by
   unfold MS.top
   rw[List.getLast?_eq_getElem?,show s.stk.length - 1=n from by omega,hx]
   rfl
  have HT:=zh3 ht hC hn
  have nb:¬g=b:=fun e=>absurd (HX.out.1.sep 1 0 g rfl (by rw[e];rfl)) (by decide)
  rw[hn]at c1
  have h0':(((n+1:Nat):Int)==0)=false:=by rw[beq_eq_false_iff_ne];omega
  have hn63:(n:Int)<9223372036854775807:=by
   have hl:=hR.length_le
   have:=hP.1
   unfold maxLen at hl
   omega
  have hw3:wrap64 (n:Int)=(n:Int):=by unfold wrap64;omega
  clear hn63
  obtain⟨hsl,_⟩:=cut_to3 elemV (hn▸hR) (k:=n) (by have:=hP.1;omega)
  clear hC ht hc hx cc hR hP M hn
  go_enter Tryz.func136,Tryz.ntmps136
  go_wp2_with fail
  exact bodyPost_ret (v:=.agg #[.int .i64 ck,.int .i64 cn,.string cs,.slice la ln lc]) (by simp only[results,Tryz.results136];go_simp) rfl ⟨_,⟨ck,cn,cs,la,ln,lc⟩,rfl,zhd (by
   have hR:=HX.out.2.1
   rw[HT.out.2.2]at hR
   rw[HT.out.1]
   exact pop_end (n:=n+1) (x:=x) (wx:=W) HX.out.1 (by rw[HT.out.2.2]) HT.out.2.2 hR HX.out.2.2 HT.out.2.1 (Below.refl _ _) ((((Keeps.refl (fun j=>W.heap.size≤j) _).alloc _).alloc _)))⟩
theorem top_any
 {Z:Nat→Prop}(b:Nat)(v:MV)(p:Img)(s:MS)(W:World)(M:MX TT Z W b v p s)
 :Calls Tryz.prog 94 #[.pointer (some ⟨b,0,none⟩)] W (MPV Z W b v p s.top s):=by
 obtain⟨ss,ic,ps,inp,ts,as_,ls,ms⟩:=v
 obtain⟨a,cap,rfl⟩:∃a cap,ss= .slice a s.stk.length cap:=M.stk.slice
 obtain⟨ks,hR,hP⟩:=M.stk.cells
 have b1:=zlt M.h
 have c1:W.cell? ⟨b,0,none⟩=some (.slice a s.stk.length cap):=M.cell (k:=0) rfl
 have HX:=zh3 M hR hP
 by_cases h0:s.stk.length=0
 ·have hs:s.stk=[]:=List.length_eq_zero_iff.1 h0
  have ht:s.top=vNil0:=by unfold MS.top;rw[hs];rfl
  have HT:=zhd ht
  have h0':decide (0<s.stk.length)=false:=decide_eq_false (by omega)
  have h1':¬0<s.stk.length:=by omega
  clear hs ht hR hP M h0
  go_enter Tryz.func94,Tryz.ntmps94
  go_wp2_with fail
  exact bodyPost_ret (v:=.agg #[.int .i64 0,.int .i64 0,.string ⟨#[]⟩,.slice none 0 0]) (by simp only[results,Tryz.results94];go_simp) rfl ⟨_,⟨0,0,⟨#[]⟩,none,0,0⟩,rfl,zhd (by
   have B:Below W.heap.size W _:=(Below.refl W.heap.size W).alloc (Nat.le_refl _) (.cells #[.int .i64 0,.int .i64 0,.string ⟨#[]⟩,.slice none 0 0] 39)
   rw[HT.out]
   exact⟨HX.out.1.ext B,MK.ext B,cf_nil0 _ _⟩)⟩
 ·obtain⟨n,hn⟩:∃n,s.stk.length=n+1:=⟨s.stk.length - 1,by omega⟩
  obtain⟨x,hx⟩:=elem_at (l:=s.stk) (k:=n) (by omega)
  obtain⟨⟨ck,cn,cs,la,ln,lc⟩,hc,hC⟩:=hP.get hx
  obtain⟨g,off,rfl,hg⟩:=hR.addr hc
  have cc:=fun(j:Nat) (hj:j<4)=>hR.cell hc (j:=j) hj
  have m0:W.cell? ⟨g,off+n*4,none⟩=some (.int .i64 ck):=cc 0 (by decide)
  have m1:W.cell? ⟨g,off+n*4+1,none⟩=some (.int .i64 cn):=by rw[Nat.add_assoc];exact cc 1 (by decide)
  have m2:W.cell? ⟨g,off+n*4+2,none⟩=some (.string cs):=by rw[Nat.add_assoc];exact cc 2 (by decide)
  have m3:W.cell? ⟨g,off+n*4+3,none⟩=some (.slice la ln lc):=by rw[Nat.add_assoc];exact cc 3 (by decide)
  have ht:s.top=x:=by
   unfold MS.top
   rw[List.getLast?_eq_getElem?,show s.stk.length - 1=n from by omega,hx]
   rfl
  have HT:=zh2 ht hC
  rw[hn]at c1
  have h0':decide ((0:Int)<((n:Int)+1))=true:=decide_eq_true (by omega)
  have hn63:(n:Int)<9223372036854775807:=by
   have hl:=hR.length_le
   have:=hP.1
   unfold maxLen at hl
   omega
  have hw3:wrap64 (n:Int)=(n:Int):=by unfold wrap64;omega
  clear hn63 hC ht hc hx cc hR hP M hn h0
  go_enter Tryz.func94,Tryz.ntmps94
  go_wp2_with fail
  exact bodyPost_ret (v:=.agg #[.int .i64 ck,.int .i64 cn,.string cs,.slice la ln lc]) (by simp only[results,Tryz.results94];go_simp) rfl ⟨_,⟨ck,cn,cs,la,ln,lc⟩,rfl,zhd (by
   have B:Below W.heap.size W _:=(Below.refl W.heap.size W).alloc (Nat.le_refl _) (.cells #[.int .i64 ck,.int .i64 cn,.string cs,.slice la ln lc] 39)
   rw[HT.out.1]
   exact⟨HX.out.1.ext B,MK.ext B,CF.step (MK.ext B) HT.out.2⟩)⟩
theorem elemT:ElemOf TC Tryz.prog 119 180 80:=elem_mk Tryz.underlying119 (z:=.agg #[.int .i64 0,.bool false,.int .i64 0,.int .i64 0,.string .empty,.slice none 0 0,.int .i64 0]) (n:=7) (by kernel_rfl) rfl rfl
theorem elemL:ElemOf LC Tryz.prog 122 130 72:=elem_mk Tryz.underlying122 (z:=.agg #[.string .empty,.int .i64 0,.int .i64 0,.string .empty,.slice none 0 0]) (n:=5) (by kernel_rfl) rfl rfl
theorem elemC:ElemOf CC Tryz.prog 65 68 104:=elem_mk Tryz.underlying65 (z:=.agg #[.int .i64 0,.int .i64 0,.int .i64 0,.int .i64 0,.string .empty,.int .i64 0,.int .i64 0,.string .empty,.slice none 0 0]) (n:=9) (by kernel_rfl) rfl rfl
def findI (id:Int)(l:List Th):Int:=match findT id l with|none=> -1|some i=>(i:Int)
def ltI (nm:ByteArray)(l:List Lt):Int:=match findLt nm l with|none=> -1|some i=>(i:Int)
theorem findT_skip {id:Int}{l:List Th}{i:Nat}{x:Th}{r:Option Nat}(hx:l[i]? =some x)(hne:x.id≠id)(h:r=(findT id (l.drop i)).map (· +i)):r=(findT id (l.drop (i+1))).map (· +(i+1)):=by
 rw[h,drop_get hx,findT,if_neg hne]
 cases findT id (l.drop (i+1))with
 |none=>rfl
 |some j=>show some (j+1+i)=some (j+(i+1));congr 1;omega
theorem findT_here {id:Int}{l:List Th}{i:Nat}{x:Th}{r:Option Nat}(hx:l[i]? =some x)(he:x.id=id)(h:r=(findT id (l.drop i)).map (· +i)):r=some i:=by
 rw[h,drop_get hx,findT,if_pos he]
 show some (0+i)=some i
 rw[Nat.zero_add]
theorem findLt_skip {id:ByteArray}{l:List Lt}{i:Nat}{x:Lt}{r:Option Nat}(hx:l[i]? =some x)(hne:x.name≠id)(h:r=(findLt id (l.drop i)).map (· +i)):r=(findLt id (l.drop (i+1))).map (· +(i+1)):=by
 rw[h,drop_get hx,findLt,if_neg hne]
 cases findLt id (l.drop (i+1))with
 |none=>rfl
 |some j=>show some (j+1+i)=some (j+(i+1));congr 1;omega
theorem findLt_here {id:ByteArray}{l:List Lt}{i:Nat}{x:Lt}{r:Option Nat}(hx:l[i]? =some x)(he:x.name=id)(h:r=(findLt id (l.drop i)).map (· +i)):r=some i:=by
 rw[h,drop_get hx,findLt,if_pos he]
 show some (0+i)=some i
 rw[Nat.zero_add]
theorem map_zero {r:Option Nat}:r=r.map (· +0):=by cases r<;>rfl
def FiRel (W:World)(id:Int)(l:List Th)(gk:Nat)(v11:Value)(wr:World):Prop:=
 ∃i:Nat,v11= .int .i64 i∧i≤l.length∧gk=l.length - i∧findT id l=(findT id (l.drop i)).map (· +i)∧wr=W
theorem find_any (b o:Nat)(id:Int)(l:List Th)(a:Option Addr)(cap:Nat)(F:Nat→Prop)(W:World)(c0:W.cell? ⟨b,o,none⟩=some (.slice a l.length cap))(H:XRow F W 180 (.slice a l.length cap) l)(hb:b<W.heap.size)(r:Int)(hr:findI id l=r):
 Calls Tryz.prog 103 #[.pointer (some ⟨b,o,none⟩),.int .i64 id] W (fun e w'=>e= .returned (.int .i64 r)∧w'=W):=by
 have hlm:l.length≤maxLen:=by
  obtain⟨cs,h1,h2,_⟩:=H
  rw[←h2];exact h1.length_le
 have HR:=zh2 H hr
 clear H hr
 go_enter Tryz.func103,Tryz.ntmps103
 go_wp2_with fail
 go_loopg [11] (l.length) (fun gk v11 wr=>FiRel W id l gk v11 wr)
 case atStart=>exact⟨0,rfl,Nat.zero_le _,rfl,map_zero,rfl⟩
 case round=>
  obtain⟨i,rfl,hi,hgk,hf,rfl⟩:=hrel
  by_cases hin:i<l.length
  ·obtain⟨x,hx⟩:=elem_at hin
   obtain⟨g,off,c,rfl,hg,hc,_,hcs⟩:=HR.out.1.at_ hx
   have m0:=hcs 0 _ rfl
   have hci:c.id=x.id:=hc.id
   rw[hci]at m0
   simp only[sz,Nat.add_zero]at m0
   have hin':(i:Int)<l.length:=by omega
   have HM:=zhd (show l.length - (i+1)<gk from by omega)
   have HW:=zhd (show wrap64 ((i:Int)+1)=(i:Int)+1 from by unfold maxLen at hlm;unfold wrap64;omega)
   have hi1:i+1≤l.length:=by omega
   by_cases he:x.id=id
   ·have heb:(x.id==id)=true:=by rw[beq_iff_eq];exact he
    have hr:=HR.out.2
    unfold findI at hr
    rw[findT_here hx he hf]at hr
    have hr:(i:Int)=r:=hr
    subst hr
    clear hf hcs hc hci hgk he
    go_wp2_with fail
    go_ret
    exact⟨rfl,rfl⟩
   ·have heb:(x.id==id)=false:=by rw[beq_eq_false_iff_ne];exact he
    have HF:=zhd (findT_skip hx he hf)
    clear hf hcs hc hci hgk he
    go_wp2_with fail
    go_roundg (l.length - (i+1))
    case measure=>exact HM.out
    case rel=>exact⟨i+1,by rw[HW.out];simp,hi1,rfl,HF.out,rfl⟩
  ·have hin':¬(i:Int)<l.length:=by omega
   have hr:=HR.out.2
   unfold findI at hr
   rw[hf,List.drop_eq_nil_of_le (by omega)]at hr
   have hr:(-1:Int)=r:=hr
   subst hr
   clear hf hgk
   go_wp2_with fail
   go_ret
   exact⟨rfl,rfl⟩
theorem beginTms_any
 {Z:Nat→Prop}(b:Nat)(v:MV)(p:Img)(s:MS)(W:World)(M:MX TT Z W b v p s)
 (hn:0≤s.timers.next∧s.timers.next≤4611686018427387904)(hl:s.timers.list.length≤4294967296)(s':MS)(hs':s'={s with timers:=beginT s.timers}):
 Calls Tryz.prog 166 #[.pointer (some ⟨b,12,none⟩)] W (MP Z W b v p (.int .i64 (s.timers.next+1)) s'):=by
 obtain⟨ss,ic,ps,inp,ts,as_,ls,ms⟩:=v
 obtain⟨a,cap,rfl⟩:∃a cap,ts= .slice a s.timers.list.length cap:=M.tms.slice
 obtain⟨k,hk⟩:∃k,s.timers.next=k:=⟨_,rfl⟩
 have hw:wrap64 (k+1)=k+1:=by unfold wrap64;omega
 have b0:=zlt M.h
 have c1:W.cell? ⟨b,12+1,none⟩=some (.int .i64 k):=by rw[←hk];exact M.cell (k:=12+1) rfl
 have f0:∀o,W.frozen? ⟨b,o,none⟩=false:=fun o=>M.frozen o
 have S1:=M.scalar (12+1) (.int .i64 (k+1)) {s with timers:=⟨s.timers.list,k+1⟩} rfl rfl rfl rfl rfl rfl rfl rfl
 have HX:=zh5 S1 hs' hk hl hn
 clear S1 M hs' hk hl hn
 go_enter Tryz.func166,Tryz.ntmps166
 go_wp2_with fail
 obtain⟨wr,hwr⟩:∃wr,wr=W.setCell ⟨b,12+1,none⟩ (.int .i64 (k+1)):=⟨_,rfl⟩
 have HY:=zh2 (hwr▸HX.out.1.1) (hwr▸HX.out.1.2)
 rw[←hwr]
 clear hwr c1 f0 b0
 have c0:wr.cell? ⟨b,12,none⟩=some (.slice a s.timers.list.length cap):=HY.out.1.cell (k:=12) rfl
 have c1:wr.cell? ⟨b,12+1,none⟩=some (.int .i64 (k+1)):=HY.out.1.cell (k:=12+1) rfl
 have f0:∀o,wr.frozen? ⟨b,o,none⟩=false:=fun o=>HY.out.1.frozen o
 have b1:=zlt HY.out.1.h
 obtain⟨ks,hR,hP⟩:=HY.out.1.tms.cells
 have hKL:ks.length=s.timers.list.length:=hP.1
 have HK:=zh2 hR hP
 have NB:=zhd (show∀g,(Value.slice a s.timers.list.length cap).ownBlock=some g→g≠b from fun g hg e=>absurd (HY.out.1.sep 3 0 g hg (by rw[e];rfl)) (by decide))
 have HBD:=zhd (show(ks.length+[(⟨k+1,false,⟨0,0,⟨#[]⟩,none,0,0⟩,0⟩:TC)].length)*80≤140737488355328∧ks.length+[(⟨k+1,false,⟨0,0,⟨#[]⟩,none,0,0⟩,0⟩:TC)].length≤maxLen∧ks.length+[(⟨k+1,false,⟨0,0,⟨#[]⟩,none,0,0⟩,0⟩:TC)].length=s.timers.list.length+1 from by have:=HX.out.2.2.2.1;unfold maxLen;simp;omega)
 clear hR hP hKL
 go_region_law ((refine step_apps (α:=TC) (o:=⟨some 21,_,_,_,_,_⟩) elemT (by rfl) (.tmp 14) (.tmp 20) (by rfl) (v:=.slice a s.timers.list.length cap) (u:=.slice (some ⟨wr.heap.size,0,none⟩) 1 1) (by rfl) (by rfl) (xs:=ks) (ys:=[⟨k+1,false,⟨0,0,⟨#[]⟩,none,0,0⟩,0⟩]) ((HK.out.1.drew).alloc _) (RowAt.lit (α:=TC) (y:=⟨k+1,false,⟨0,0,⟨#[]⟩,none,0,0⟩,0⟩) (heap_alloc_new _ _)) HBD.out.1 HBD.out.2.1 (s.timers.list.length+1) HBD.out.2.2 ?_;intro a1 cp w1 hr1 hk1 hf1;have hb1:=(hk1.block b (by simp;omega) (fun e=>NB.out _ e rfl)).trans ((Below.heap_alloc _ _ _ b1).trans HY.out.1.h);have y0:w1.cell? ⟨b,12,none⟩=some (.slice a s.timers.list.length cap):=(by rw[zch hb1];rfl);have y1:∀o,w1.frozen? ⟨b,o,none⟩=false:=(fun o=>zfr hb1 o);have y2:b<w1.heap.size:=zlt hb1;have FF:=zh3 hr1 hk1 hf1;clear hr1 hk1 hf1 hb1))
 all_goals
  have B1:Below wr.heap.size wr (wr.drew.alloc (.cells (enc (⟨k+1,false,⟨0,0,⟨#[]⟩,none,0,0⟩,0⟩:TC)).toArray 180)):=((Below.refl wr.heap.size wr).drew).alloc (Nat.le_refl _) _
  have S:=HY.out.1.putTms (v1:=.slice a1 (s.timers.list.length+1) cp) s' FF.out.1 (HK.out.2.app (Ptw.one (x:=⟨k+1,false,vNil0,0⟩) ⟨rfl,rfl,cf_nil0 _ _,rfl⟩)) (((zkb (S:=fun _=>False) B1).mono (fun _ _ f=>f.elim)).trans FF.out.2.1 (fun _ _ e=>e)) (fun g hg=>(FF.out.2.2 g hg).imp id (fun h=>Nat.le_trans B1.size h)) (by rw[HX.out.2.1];unfold beginT;rw[HX.out.2.2.1];rfl)
  obtain⟨wz,hwz⟩:∃wz,wz=w1.setCell ⟨b,12,none⟩ (.slice a1 (s.timers.list.length+1) cp):=⟨_,rfl⟩
  rw[←hwz]at S⊢
  have HS:=zhd S
  have d1:wz.cell? ⟨b,12+1,none⟩=some (.int .i64 (k+1)):=by
   have:=S.1.cell (k:=12+1) (u:=.int .i64 s'.timers.next) rfl
   rw[this,HX.out.2.1,←HX.out.2.2.1]
   rfl
  have bz:=zlt S.1.h
  have fz:∀o,wz.frozen? ⟨b,o,none⟩=false:=fun o=>S.1.frozen o
  clear S hwz y0 y1 y2 c0 c1 f0 B1
  go_wp2_with fail
  go_ret
  exact⟨_,by rw[HX.out.2.2.1];rfl,zhd ⟨HS.out.1,HY.out.2.trans HS.out.2⟩⟩
theorem beginAcs_any
 {Z:Nat→Prop}(b:Nat)(v:MV)(p:Img)(s:MS)(W:World)(M:MX TT Z W b v p s)
 (hn:0≤s.acts.next∧s.acts.next≤4611686018427387904)(hl:s.acts.list.length≤4294967296)(s':MS)(hs':s'={s with acts:=beginT s.acts}):
 Calls Tryz.prog 166 #[.pointer (some ⟨b,14,none⟩)] W (MP Z W b v p (.int .i64 (s.acts.next+1)) s'):=by
 obtain⟨ss,ic,ps,inp,ts,as_,ls,ms⟩:=v
 obtain⟨a,cap,rfl⟩:∃a cap,as_= .slice a s.acts.list.length cap:=M.acs.slice
 obtain⟨k,hk⟩:∃k,s.acts.next=k:=⟨_,rfl⟩
 have hw:wrap64 (k+1)=k+1:=by unfold wrap64;omega
 have b0:=zlt M.h
 have c1:W.cell? ⟨b,14+1,none⟩=some (.int .i64 k):=by rw[←hk];exact M.cell (k:=14+1) rfl
 have f0:∀o,W.frozen? ⟨b,o,none⟩=false:=fun o=>M.frozen o
 have S1:=M.scalar (14+1) (.int .i64 (k+1)) {s with acts:=⟨s.acts.list,k+1⟩} rfl rfl rfl rfl rfl rfl rfl rfl
 have HX:=zh5 S1 hs' hk hl hn
 clear S1 M hs' hk hl hn
 go_enter Tryz.func166,Tryz.ntmps166
 go_wp2_with fail
 obtain⟨wr,hwr⟩:∃wr,wr=W.setCell ⟨b,14+1,none⟩ (.int .i64 (k+1)):=⟨_,rfl⟩
 have HY:=zh2 (hwr▸HX.out.1.1) (hwr▸HX.out.1.2)
 rw[←hwr]
 clear hwr c1 f0 b0
 have c0:wr.cell? ⟨b,14,none⟩=some (.slice a s.acts.list.length cap):=HY.out.1.cell (k:=14) rfl
 have c1:wr.cell? ⟨b,14+1,none⟩=some (.int .i64 (k+1)):=HY.out.1.cell (k:=14+1) rfl
 have f0:∀o,wr.frozen? ⟨b,o,none⟩=false:=fun o=>HY.out.1.frozen o
 have b1:=zlt HY.out.1.h
 obtain⟨ks,hR,hP⟩:=HY.out.1.acs.cells
 have hKL:ks.length=s.acts.list.length:=hP.1
 have HK:=zh2 hR hP
 have NB:=zhd (show∀g,(Value.slice a s.acts.list.length cap).ownBlock=some g→g≠b from fun g hg e=>absurd (HY.out.1.sep 4 0 g hg (by rw[e];rfl)) (by decide))
 have HBD:=zhd (show(ks.length+[(⟨k+1,false,⟨0,0,⟨#[]⟩,none,0,0⟩,0⟩:TC)].length)*80≤140737488355328∧ks.length+[(⟨k+1,false,⟨0,0,⟨#[]⟩,none,0,0⟩,0⟩:TC)].length≤maxLen∧ks.length+[(⟨k+1,false,⟨0,0,⟨#[]⟩,none,0,0⟩,0⟩:TC)].length=s.acts.list.length+1 from by have:=HX.out.2.2.2.1;unfold maxLen;simp;omega)
 clear hR hP hKL
 go_region_law ((refine step_apps (α:=TC) (o:=⟨some 21,_,_,_,_,_⟩) elemT (by rfl) (.tmp 14) (.tmp 20) (by rfl) (v:=.slice a s.acts.list.length cap) (u:=.slice (some ⟨wr.heap.size,0,none⟩) 1 1) (by rfl) (by rfl) (xs:=ks) (ys:=[⟨k+1,false,⟨0,0,⟨#[]⟩,none,0,0⟩,0⟩]) ((HK.out.1.drew).alloc _) (RowAt.lit (α:=TC) (y:=⟨k+1,false,⟨0,0,⟨#[]⟩,none,0,0⟩,0⟩) (heap_alloc_new _ _)) HBD.out.1 HBD.out.2.1 (s.acts.list.length+1) HBD.out.2.2 ?_;intro a1 cp w1 hr1 hk1 hf1;have hb1:=(hk1.block b (by simp;omega) (fun e=>NB.out _ e rfl)).trans ((Below.heap_alloc _ _ _ b1).trans HY.out.1.h);have y0:w1.cell? ⟨b,14,none⟩=some (.slice a s.acts.list.length cap):=(by rw[zch hb1];rfl);have y1:∀o,w1.frozen? ⟨b,o,none⟩=false:=(fun o=>zfr hb1 o);have y2:b<w1.heap.size:=zlt hb1;have FF:=zh3 hr1 hk1 hf1;clear hr1 hk1 hf1 hb1))
 all_goals
  have B1:Below wr.heap.size wr (wr.drew.alloc (.cells (enc (⟨k+1,false,⟨0,0,⟨#[]⟩,none,0,0⟩,0⟩:TC)).toArray 180)):=((Below.refl wr.heap.size wr).drew).alloc (Nat.le_refl _) _
  have S:=HY.out.1.putAcs (v1:=.slice a1 (s.acts.list.length+1) cp) s' FF.out.1 (HK.out.2.app (Ptw.one (x:=⟨k+1,false,vNil0,0⟩) ⟨rfl,rfl,cf_nil0 _ _,rfl⟩)) (((zkb (S:=fun _=>False) B1).mono (fun _ _ f=>f.elim)).trans FF.out.2.1 (fun _ _ e=>e)) (fun g hg=>(FF.out.2.2 g hg).imp id (fun h=>Nat.le_trans B1.size h)) (by rw[HX.out.2.1];unfold beginT;rw[HX.out.2.2.1];rfl)
  obtain⟨wz,hwz⟩:∃wz,wz=w1.setCell ⟨b,14,none⟩ (.slice a1 (s.acts.list.length+1) cp):=⟨_,rfl⟩
  rw[←hwz]at S⊢
  have HS:=zhd S
  have d1:wz.cell? ⟨b,14+1,none⟩=some (.int .i64 (k+1)):=by
   have:=S.1.cell (k:=14+1) (u:=.int .i64 s'.acts.next) rfl
   rw[this,HX.out.2.1,←HX.out.2.2.1]
   rfl
  have bz:=zlt S.1.h
  have fz:∀o,wz.frozen? ⟨b,o,none⟩=false:=fun o=>S.1.frozen o
  clear S hwz y0 y1 y2 c0 c1 f0 B1
  go_wp2_with fail
  go_ret
  exact⟨_,by rw[HX.out.2.2.1];rfl,zhd ⟨HS.out.1,HY.out.2.trans HS.out.2⟩⟩
theorem cbox {w5:World}{B:Nat}{k t t' a b:Int}{nm:ByteArray}{c c':VC}{T:TypeId}(h:w5.heap[B]? =some (.cells #[.int .i64 k,.int .i64 t,.int .i64 a,.int .i64 b,.string nm,.int .i64 c.kind,.int .i64 c.n,.string c.s,.slice c.la c.ln c.lc] T (0,0))):
 (((((w5.setCell ⟨B,1,none⟩ (.int .i64 t')).setCell ⟨B,5,none⟩ (.int .i64 c'.kind)).setCell ⟨B,6,none⟩ (.int .i64 c'.n)).setCell ⟨B,7,none⟩ (.string c'.s)).setCell ⟨B,8,none⟩ (.slice c'.la c'.ln c'.lc)).heap[B]? =some (.cells #[.int .i64 k,.int .i64 t',.int .i64 a,.int .i64 b,.string nm,.int .i64 c'.kind,.int .i64 c'.n,.string c'.s,.slice c'.la c'.ln c'.lc] T (0,0)):=by
 simp[World.setCell,Array.getElem?_modify,h]
theorem five_one (w':World)(b:Nat)(v1 v2 v3 v4 v5:Value):
 Keeps (fun j=>j=b) w' (((((w'.setCell ⟨b,1,none⟩ v1).setCell ⟨b,5,none⟩ v2).setCell ⟨b,6,none⟩ v3).setCell ⟨b,7,none⟩ v4).setCell ⟨b,8,none⟩ v5):=by
 have k0:Keeps (fun j=>j=b) w' w':=Keeps.refl _ _
 have k1:=Keeps.setCell (p:=⟨b,1,none⟩) k0 (.inl rfl) v1
 have k2:=Keeps.setCell (p:=⟨b,5,none⟩) k1 (.inl rfl) v2
 have k3:=Keeps.setCell (p:=⟨b,6,none⟩) k2 (.inl rfl) v3
 have k4:=Keeps.setCell (p:=⟨b,7,none⟩) k3 (.inl rfl) v4
 exact Keeps.setCell (p:=⟨b,8,none⟩) k4 (.inl rfl) v5
theorem want_any
 {Z:Nat→Prop}(b:Nat)(v:MV)(p:Img)(s:MS)(W:World)(M:MX TT Z W b v p s)
 (k t a c:Int)(nm:ByteArray)(x:Val)(vk vn:Int)(vs:ByteArray)(la:Option Addr)(ln lc:Nat)(F:Nat→Prop)(C:CF F W ⟨vk,vn,vs,la,ln,lc⟩ x)(hz:szV x≤1073741824)(hl:s.made.length≤4294967296)(hZ:∀j,W.heap.size≤j→Z j)
 (s':MS)(hs':s.want ⟨k,t,a,c,nm,x⟩=s'):
 Calls Tryz.prog 165 #[.pointer (some ⟨b,0,none⟩),.agg #[.int .i64 k,.int .i64 t,.int .i64 a,.int .i64 c,.string nm,.int .i64 vk,.int .i64 vn,.string vs,.slice la ln lc]] W (MP Z W b v p (.tuple #[]) s'):=by
 obtain⟨ss,ic,ps,inp,ts,as_,ls,ms⟩:=v
 obtain⟨am,cap,rfl⟩:∃a cap,ms= .slice a s.made.length cap:=M.mds.slice
 have hb:=zlt M.h
 obtain⟨w0,hw0⟩:∃w0,w0=W.alloc (.cells #[.int .i64 k,.int .i64 t,.int .i64 a,.int .i64 c,.string nm,.int .i64 vk,.int .i64 vn,.string vs,.slice la ln lc] 68):=⟨_,rfl⟩
 have B0:=zba hw0
 have hB:=zha hw0
 have q0:=zca hB 0 rfl
 have q1:=zca hB 1 rfl
 have q5:=zca hB 5 rfl
 have q6:=zca hB 6 rfl
 have q7:=zca hB 7 rfl
 have q8:=zca hB 8 rfl
 have qf:∀o,w0.frozen? ⟨W.heap.size,o,none⟩=false:=fun o=>zfr hB o
 have lr:W.heap.size<w0.heap.size:=zlt hB
 have b1:b<w0.heap.size:=by omega
 have M0:=M.ext B0
 have c11:w0.cell? ⟨b,11,none⟩=some (.int .i64 s.now):=M0.cell (k:=11) rfl
 have nbB:¬W.heap.size=b:=by omega
 have CL:=zhd (clone_any x vk vn vs la ln lc F w0.drew (C.keep (S:=fun _=>False) (zkb B0.drew) (fun _ _ f=>f)) hz)
 have HX:=zh7 M B0 hB hs' hl hZ hb
 clear M B0 hB hs' hl hZ hb C M0
 go_enter Tryz.func165,Tryz.ntmps165
 go_wp2_with fail
 rw[←hw0]
 clear hw0
 go_region_law ((go_simp;go_at_call 57;refine CL.out.mono ?_;rintro e w5 ⟨⟨k8,n8,s8,la8,ln8,lc8⟩,rfl,hC8⟩;have B5:Below w0.heap.size w0 w5:=Below.trans ((Below.refl w0.heap.size w0).drew) hC8.out.2;have hB5:=(B5.block W.heap.size lr).trans HX.out.2.2.1;have r1:w5.cell? ⟨W.heap.size,1,none⟩=some (.int .i64 t):=(by rw[zch hB5];rfl);have r5:w5.cell? ⟨W.heap.size,5,none⟩=some (.int .i64 vk):=(by rw[zch hB5];rfl);have r6:w5.cell? ⟨W.heap.size,6,none⟩=some (.int .i64 vn):=(by rw[zch hB5];rfl);have r7:w5.cell? ⟨W.heap.size,7,none⟩=some (.string vs):=(by rw[zch hB5];rfl);have r8:w5.cell? ⟨W.heap.size,8,none⟩=some (.slice la ln lc):=(by rw[zch hB5];rfl);have rf:∀o,w5.frozen? ⟨W.heap.size,o,none⟩=false:=(fun o=>zfr hB5 o);have rl:=zlt hB5;have c12:=(B5.cell (p:=⟨b,11,none⟩) b1).trans c11;have H5:=zh3 hC8.out.1 B5 hB5;clear hC8 B5 hB5))
 all_goals
  obtain⟨w6,hw6⟩:∃w6,w6=(((((w5.setCell ⟨W.heap.size,1,none⟩ (.int .i64 s.now)).setCell ⟨W.heap.size,5,none⟩ (.int .i64 k8)).setCell ⟨W.heap.size,6,none⟩ (.int .i64 n8)).setCell ⟨W.heap.size,7,none⟩ (.string s8)).setCell ⟨W.heap.size,8,none⟩ (.slice la8 ln8 lc8)):=⟨_,rfl⟩
  rw[←hw6]
  have hB6:w6.heap[W.heap.size]? =some (.cells #[.int .i64 k,.int .i64 s.now,.int .i64 a,.int .i64 c,.string nm,.int .i64 k8,.int .i64 n8,.string s8,.slice la8 ln8 lc8] 68 (0,0)):=by rw[hw6];exact cbox (c':=⟨k8,n8,s8,la8,ln8,lc8⟩) (c:=⟨vk,vn,vs,la,ln,lc⟩) H5.out.2.2
  have K56:Keeps (fun j=>j=W.heap.size) w5 w6:=by rw[hw6];exact five_one _ _ _ _ _ _ _
  have K6:Keeps (fun j=>W.heap.size≤j) W w6:=((zkb (S:=fun _=>False) (HX.out.2.1.trans (H5.out.2.1.mono HX.out.2.1.size))).mono (fun _ _ f=>f.elim)).trans K56 (fun j _ e=>Nat.le_of_eq e.symm)
  have M6:=HX.out.1.cut.late (fun j h=>HX.out.1.lt h) K6
  have KM6:=(MK.refl b ⟨ss,ic,ps,inp,ts,as_,ls,.slice am s.made.length cap⟩ W).late K6
  have C6:CF (MZ Z ⟨ss,ic,ps,inp,ts,as_,ls,.slice am s.made.length cap⟩ b) w6 ⟨k8,n8,s8,la8,ln8,lc8⟩ (cloneV x):=((H5.out.1.keep K56 (fun g hg e=>by have hg:w0.heap.size≤g:=hg;have e:g=W.heap.size:=e;omega))).mono (fun g hg _=>by
   have hg:w0.heap.size≤g:=hg
   exact⟨fun e=>by have:=HX.out.1.lt e;omega,HX.out.2.2.2.2.2.1 g (by omega)⟩)
  obtain⟨ks,hR,hP⟩:=M6.mds.cells
  have hKL:ks.length=s.made.length:=hP.1
  have HY:=zh6 M6 KM6 C6 hB6 hR hP
  have HBD:=zhd (show(ks.length+[(⟨k,s.now,a,c,nm,⟨k8,n8,s8,la8,ln8,lc8⟩⟩:CC)].length)*104≤140737488355328∧ks.length+[(⟨k,s.now,a,c,nm,⟨k8,n8,s8,la8,ln8,lc8⟩⟩:CC)].length≤maxLen∧ks.length+[(⟨k,s.now,a,c,nm,⟨k8,n8,s8,la8,ln8,lc8⟩⟩:CC)].length=s.made.length+1 from by have:=HX.out.2.2.2.2.1;unfold maxLen;simp;omega)
  have NB:=zhd (show∀g,(Value.slice am s.made.length cap).ownBlock=some g→g≠b∧g≠W.heap.size from fun g hg=>⟨fun e=>absurd (HX.out.1.sep 6 0 g hg (by rw[e];rfl)) (by decide),fun e=>by have:=HX.out.1.mds.lt hg;omega⟩)
  have lz:W.heap.size<w6.heap.size:=zlt hB6
  have b6:b<w6.heap.size:=by have:=HX.out.2.2.2.2.2.2;omega
  have q0:=zca hB6 0 rfl
  have q1:=zca hB6 1 rfl
  have q2:=zca hB6 2 rfl
  have q3:=zca hB6 3 rfl
  have q4:=zca hB6 4 rfl
  have q5:=zca hB6 5 rfl
  have q6:=zca hB6 6 rfl
  have q7:=zca hB6 7 rfl
  have q8:=zca hB6 8 rfl
  have d21:w6.cell? ⟨b,21,none⟩=some (.slice am s.made.length cap):=M6.cell (k:=21) rfl
  have df:∀o,w6.frozen? ⟨b,o,none⟩=false:=fun o=>M6.frozen o
  clear M6 KM6 C6 hB6 hR hP hKL K56 K6 hw6 r1 r5 r6 r7 r8 rf c12 c11 rl lr b1 qf
  go_wp2_with fail
  go_region_law ((refine step_apps (α:=CC) (o:=⟨some 20,_,_,_,_,_⟩) elemC (by rfl) (.tmp 17) (.tmp 19) (by rfl) (v:=.slice am s.made.length cap) (u:=.slice (some ⟨w6.heap.size,0,none⟩) 1 1) (by rfl) (by rfl) (xs:=ks) (ys:=[⟨k,s.now,a,c,nm,⟨k8,n8,s8,la8,ln8,lc8⟩⟩]) ((HY.out.2.2.2.2.1.drew).alloc _) (RowAt.lit (α:=CC) (y:=⟨k,s.now,a,c,nm,⟨k8,n8,s8,la8,ln8,lc8⟩⟩) (heap_alloc_new _ _)) HBD.out.1 HBD.out.2.1 (s.made.length+1) HBD.out.2.2 ?_;intro a1 cp w7 hr1 hk1 hf1;have hb1:=(hk1.block b (by simp;omega) (fun e=>(NB.out _ e).1 rfl)).trans ((Below.heap_alloc _ _ _ b6).trans HY.out.1.h);have hz1:=(hk1.block W.heap.size (by simp;omega) (fun e=>(NB.out _ e).2 rfl)).trans ((Below.heap_alloc _ _ _ lz).trans HY.out.2.2.2.1);have y0:w7.cell? ⟨b,21,none⟩=some (.slice am s.made.length cap):=(by rw[zch hb1];rfl);have y1:∀o,w7.frozen? ⟨b,o,none⟩=false:=(fun o=>zfr hb1 o);have y2:b<w7.heap.size:=zlt hb1;have FF:=zh4 hr1 hk1 hf1 hz1;clear hr1 hk1 hf1 hb1 hz1))
  all_goals
   have B1:Below w6.heap.size w6 (w6.drew.alloc (.cells (enc (⟨k,s.now,a,c,nm,⟨k8,n8,s8,la8,ln8,lc8⟩⟩:CC)).toArray 68)):=((Below.refl w6.heap.size w6).drew).alloc (Nat.le_refl _) _
   have S:=HY.out.1.putMds (v1:=.slice a1 (s.made.length+1) cp) {s with made:=s.made++[⟨k,s.now,a,c,nm,cloneV x⟩]} FF.out.1 (HY.out.2.2.2.2.2.app (Ptw.one (x:=⟨k,s.now,a,c,nm,cloneV x⟩) ⟨rfl,rfl,rfl,rfl,rfl,HY.out.2.2.1⟩)) (((zkb (S:=fun _=>False) B1).mono (fun _ _ f=>f.elim)).trans FF.out.2.1 (fun _ _ e=>e)) (fun g hg=>(FF.out.2.2.1 g hg).imp id (fun h=>Nat.le_trans B1.size h)) rfl
   obtain⟨wz,hwz⟩:∃wz,wz=w7.setCell ⟨b,21,none⟩ (.slice a1 (s.made.length+1) cp):=⟨_,rfl⟩
   rw[←hwz]at S⊢
   have hzb:wz.heap[W.heap.size]? =some (.cells #[.int .i64 k,.int .i64 s.now,.int .i64 a,.int .i64 c,.string nm,.int .i64 k8,.int .i64 n8,.string s8,.slice la8 ln8 lc8] 68 (0,0)):=by
    rw[hwz,Below.heap_setCell _ _ _ _ (fun e=>by have e:W.heap.size=b:=e;have:=HX.out.2.2.2.2.2.2;omega)]
    exact FF.out.2.2.2
   have z0:=zca hzb 0 rfl
   have zl:=zlt hzb
   have d19:wz.cell? ⟨b,19,none⟩=some (.bool s.over):=S.1.cell (k:=19) rfl
   have fz:∀o,wz.frozen? ⟨b,o,none⟩=false:=fun o=>S.1.frozen o
   have bz:=zlt S.1.h
   have HS:=zh2 S.1 (HY.out.2.1.trans S.2)
   have hsz:=HX.out.2.2.2.1
   clear S hwz hzb y0 y1 y2 d21 df B1 q0 q1 q2 q3 q4 q5 q6 q7 q8
   by_cases k4:k=4
   ·subst k4
    have HE:=zhd hsz
    clear hsz
    have hE:s'=({s with made:=s.made++[⟨4,s.now,a,c,nm,cloneV x⟩],over:=true}:MS):=by rw[←HE.out];unfold MS.want;simp
    have HE:=zhd hE
    clear hE
    go_wp2_with fail
    go_end0
    have S2:=HS.out.1.scalar 19 (.bool true) s' (by rw[HE.out];rfl) (by rw[HE.out]) (by rw[HE.out]) (by rw[HE.out]) (by rw[HE.out]) (by rw[HE.out]) (by rw[HE.out]) (by rw[HE.out])
    exact⟨_,rfl,zhd ⟨S2.1,HS.out.2.trans S2.2⟩⟩
   ·have k4':(k==4)=false:=by rw[beq_eq_false_iff_ne];exact k4
    by_cases k5:k=5
    ·subst k5
     have HE:=zhd hsz
     clear hsz
     have hE:s'=({s with made:=s.made++[⟨5,s.now,a,c,nm,cloneV x⟩],over:=true}:MS):=by rw[←HE.out];unfold MS.want;simp
     have HE:=zhd hE
     clear hE
     go_wp2_with fail
     go_end0
     have S2:=HS.out.1.scalar 19 (.bool true) s' (by rw[HE.out];rfl) (by rw[HE.out]) (by rw[HE.out]) (by rw[HE.out]) (by rw[HE.out]) (by rw[HE.out]) (by rw[HE.out]) (by rw[HE.out])
     exact⟨_,rfl,zhd ⟨S2.1,HS.out.2.trans S2.2⟩⟩
    ·have k5':(k==5)=false:=by rw[beq_eq_false_iff_ne];exact k5
     by_cases k6:k=6
     ·subst k6
      have HE:=zhd hsz
      clear hsz
      have hE:s'=({s with made:=s.made++[⟨6,s.now,a,c,nm,cloneV x⟩],over:=true}:MS):=by rw[←HE.out];unfold MS.want;simp
      have HE:=zhd hE
      clear hE
      go_wp2_with fail
      go_end0
      have S2:=HS.out.1.scalar 19 (.bool true) s' (by rw[HE.out];rfl) (by rw[HE.out]) (by rw[HE.out]) (by rw[HE.out]) (by rw[HE.out]) (by rw[HE.out]) (by rw[HE.out]) (by rw[HE.out])
      exact⟨_,rfl,zhd ⟨S2.1,HS.out.2.trans S2.2⟩⟩
     ·have k6':(k==6)=false:=by rw[beq_eq_false_iff_ne];exact k6
      have HE:=zhd (show({s with made:=s.made++[⟨k,s.now,a,c,nm,cloneV x⟩]}:MS)=s' from by rw[←hsz];unfold MS.want;simp only[k4',k5',k6',Bool.or_false])
      clear hsz
      go_wp2_with fail
      go_end0
      exact⟨_,rfl,zhd (by rw[←HE.out];exact HS.out)⟩
theorem sz_nil0:szV vNil0≤1073741824:=by rw[szV_eq];decide
theorem fall_any
 {Z:Nat→Prop}(b:Nat)(v:MV)(p:Img)(s:MS)(W:World)(M:MX TT Z W b v p s)
 (why:ByteArray)(hy:why.size≤64)(hl:s.made.length≤4294967296)(hZ:∀j,W.heap.size≤j→Z j)(s':MS)(hs':s.fall why=s'):
 Calls Tryz.prog 163 #[.pointer (some ⟨b,0,none⟩),.string why] W (MP Z W b v p (.bool true) s'):=by
 obtain⟨ss,ic,ps,inp,ts,as_,ls,ms⟩:=v
 have b0:=zlt M.h
 have c1:W.cell? ⟨b,20,none⟩=some (.string s.trap):=M.cell (k:=20) rfl
 have f0:∀o,W.frozen? ⟨b,o,none⟩=false:=fun o=>M.frozen o
 have S1:=M.scalar 20 (.string why) {s with trap:=why} rfl rfl rfl rfl rfl rfl rfl rfl
 have HX:=zh5 S1.1 S1.2 hs' hl hZ
 clear S1 M hs' hl hZ
 go_enter Tryz.func163,Tryz.ntmps163
 go_wp2_with fail
 obtain⟨wr,hwr⟩:∃wr,wr=W.setCell ⟨b,20,none⟩ (.string why):=⟨_,rfl⟩
 have HY:=zh2 (hwr▸HX.out.1) (hwr▸HX.out.2.1)
 rw[←hwr]
 clear hwr c1 f0 b0
 have WN:=zhd (want_any b _ p _ wr HY.out.1 5 0 0 0 (⟨#[116,114,97,112,32]⟩++why) vNil0 0 0 ⟨#[]⟩ none 0 0 (fun _=>True) (cf_nil0 _ _) sz_nil0 HX.out.2.2.2.1 (hZ_step HX.out.2.2.2.2 HY.out.2.keeps.size) s' (by have h:=HX.out.2.2.1;unfold MS.fall at h;exact h))
 refine WN.out.mono ?_
 rintro e w5 ⟨v',rfl,H5⟩
 go_wp2_with fail
 go_ret
 exact⟨v',rfl,zhd ⟨H5.out.1,HY.out.2.trans H5.out.2⟩⟩
theorem put_any
 {Z:Nat→Prop}(b:Nat)(v:MV)(p:Img)(s:MS)(W:World)(M:MX TT Z W b v p s)
 (x:Val)(ck cn:Int)(cs:ByteArray)(la:Option Addr)(ln lc:Nat)(C:CF (MZ Z v b) W ⟨ck,cn,cs,la,ln,lc⟩ x)(hw:x.wf)(hk:s.stk.length≤4294967296)(hl:s.made.length≤4294967296)(hZ:∀j,W.heap.size≤j→Z j)(s':MS)(hs':s.put x=s'):
 Calls Tryz.prog 167 #[.pointer (some ⟨b,0,none⟩),.agg #[.int .i64 ck,.int .i64 cn,.string cs,.slice la ln lc]] W (MP Z W b v p (.bool true) s'):=by
 obtain⟨w0,hw0⟩:∃w0,w0=W.alloc (.cells #[.int .i64 ck,.int .i64 cn,.string cs,.slice la ln lc] 39):=⟨_,rfl⟩
 have B0:=zba hw0
 have hB:=zha hw0
 have q0:=zca hB 0 rfl
 have q1:=zca hB 1 rfl
 have q2:=zca hB 2 rfl
 have q3:=zca hB 3 rfl
 have lr:W.heap.size<w0.heap.size:=zlt hB
 obtain⟨r,hr⟩:∃r,checkL x=r:=⟨_,rfl⟩
 have CH:=zhd (check_any x ck cn cs la ln lc (MZ Z v b) w0 (C.keep (S:=fun _=>False) (zkb B0) (fun _ _ f=>f)) hw r hr)
 unfold MS.put at hs'
 rw[hr]at hs'
 have HX:=zh8 M B0 C hs' hl hZ hk hB
 clear M B0 C hs' hl hZ hk hr hw hB
 go_enter Tryz.func167,Tryz.ntmps167
 go_wp2_with fail
 rw[←hw0]
 clear hw0
 refine CH.out.mono ?_
 rintro e w5 ⟨rfl,hB5⟩
 have B5:=HX.out.2.1.trans (hB5.mono HX.out.2.1.size)
 have hb5:=(hB5.block W.heap.size lr).trans HX.out.2.2.2.2.2.2.2
 have M5:=HX.out.1.ext B5
 have C5:=HX.out.2.2.1.keep (S:=fun _=>False) (zkb B5) (fun _ _ f=>f)
 have H5:=zh4 B5 hb5 M5 C5
 clear hB5 q0 q1 q2 q3 lr B5 hb5 M5 C5
 cases hz:(r !=0)with
 |true=>
  have hs':=HX.out.2.2.2.1
  rw[if_pos (by simpa using hz)]at hs'
  have FL:=zhd (fall_any b v p s w5 H5.out.2.2.1 ⟨#[108,111,110,103]⟩ (by decide) HX.out.2.2.2.2.1 (hZ_step HX.out.2.2.2.2.2.1 H5.out.1.size) s' hs')
  clear hs'
  go_wp2_with fail
  refine FL.out.mono ?_
  rintro e w6 ⟨v',rfl,H6⟩
  go_wp2_with fail
  go_ret
  exact⟨v',rfl,zhd ⟨H6.out.1,(MK.ext H5.out.1).trans H6.out.2⟩⟩
 |false=>
  have hs':=HX.out.2.2.2.1
  rw[if_neg (by simpa using hz)]at hs'
  have PU:=zhd (push_any b v p s w5.drew (H5.out.2.2.1.ext (Below.refl _ _).drew) x ck cn cs la ln lc (H5.out.2.2.2.keep (S:=fun _=>False) (zkb ((Below.refl _ _).drew)) (fun _ _ f=>f)) HX.out.2.2.2.2.2.2.1)
  have q0:=zca H5.out.2.1 0 rfl
  have q1:=zca H5.out.2.1 1 rfl
  have q2:=zca H5.out.2.1 2 rfl
  have q3:=zca H5.out.2.1 3 rfl
  have lr:W.heap.size<w5.heap.size:=zlt H5.out.2.1
  have hE:=zhd hs'
  clear hs'
  go_wp2_with fail
  go_region_law ((go_simp;go_at_call 137;refine PU.out.mono ?_;rintro e w6 ⟨v',rfl,H6⟩))
  all_goals
   go_wp2_with fail
   go_ret
   exact⟨v',rfl,zhd ⟨by rw[←hE.out];exact H6.out.1,(MK.ext (H5.out.1.drew)).trans H6.out.2⟩⟩
end Go.Proofs.YtakljipkaoahnaaGreatDoor
