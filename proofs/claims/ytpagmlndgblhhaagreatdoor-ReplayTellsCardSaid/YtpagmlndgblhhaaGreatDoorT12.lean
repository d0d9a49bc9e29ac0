/- Parts of the proof: what the functions and the plain laws give that later parts lean on. Conditions: none beyond those that each theorem names. -/
import Derived.Test.YtpagmlndgblhhaaGreatDoorT11
set_option maxRecDepth 100000
set_option maxHeartbeats 8000000
namespace Go.Va
open Go.Own Go.RowKit
open Cells (sz enc)
theorem yfm {P:Program}{t e:TypeId}{i:TypeInfo}(ht:P.underlying t=some (.slice e))(hi:P.info? e=some i){ad:Option Addr}{k n cap:Nat}(hn:n<=cap)(W:World):
  (Instr.slice t (.slice ad k cap) none (some (.int .i64 n)) (some (.int .i64 n))).run P W= .ok (.slice ad n n) W:=by
 have A:ad.map (fun a=>a.add 0)=ad:=by cases ad<;>simp[Addr.add]
 simp[Instr.slice,run_underlying ht,Instr.sliceBounds,Instr.sliceBound,asIntOf,hn,sizeOf,typeInfo,hi,Result.andThen,A]
theorem RowAt.pre3 {α:Type}[Cells α]{w:World}{e:TypeId}{xs:List α}{ad:Option Addr}{k cap:Nat}(h:RowAt w e (.slice ad k cap) xs){n:Nat}(hn:n<=xs.length):
  n<=cap/\RowAt w e (.slice ad n n) (xs.take n):=by
 rcases h with⟨h,rfl⟩|⟨G,A,C,B,hv,E,J,I,H,F⟩
 .cases h
  simp at hn;subst hn;exact⟨znc _,.inl ⟨rfl,rfl⟩⟩
 .cases hv
  have D:(xs.take n).length=n:=by simp;omega
  refine⟨by omega,.inr ⟨G,A,n,B,by rw[D],E,by omega,by omega,?_,fun j u hu=>F j u ?_⟩⟩
  .have:n*sz α<=cap*sz α:=Nat.mul_le_mul_right _ (by omega)
   omega
  .rw[<-List.take_append_drop n xs,List.flatMap_append]
   exact(List.getElem?_append_left (zge hu).1).trans hu
theorem ykV {α:Type}[Cells α]{P:Program}{t e:TypeId}{bytes:Nat}(E:ElemOf α P t e bytes){w:World}{ad:Option Addr}{n cap:Nat}{xs:List α}(h:RowAt w e (.slice ad n cap) xs){k:Nat}(hk:k<=xs.length):
  (∀W:World,(Instr.slice t (.slice ad n cap) none (some (.int .i64 k)) (some (.int .i64 k))).run P W= .ok (.slice ad k k) W)/\RowAt w e (.slice ad k k) (xs.take k):=by
 obtain⟨i,z,hi,D,C,B,A⟩:=E.hi;obtain⟨a,b⟩:=RowAt.pre3 h hk;exact⟨fun W=>yfm E.ht hi a W,b⟩
def Ptw {α β:Type}[Cells α][Elt α β](F:Nat->Prop)(w:World)(cs:List α)(l:List β):Prop:=
 cs.length=l.length/\∀(i:Nat) (c:α) (x:β),cs[i]? =some c->l[i]? =some x->Elt.rel F w c x
section
variable{α β:Type} [Cells α] [Elt α β] {F G S:Nat->Prop} {w w':World} {e:TypeId} {v:Value} {l m:List β} {cs ds:List α}
theorem XRow.cells (h:XRow F w e v l):∃cs:List α,RowAt w e v cs/\Ptw F w cs l:=by
 obtain⟨cs,C,B,A⟩:=h;exact⟨cs,C,B,A⟩
theorem XRow.of (h:RowAt w e v cs)(p:Ptw F w cs l):XRow F w e v l:=⟨cs,h,p.1,p.2⟩
theorem Ptw.nil:Ptw (α:=α) F w [] ([]:List β):=⟨rfl,fun i c x h=>by simp at h⟩
theorem Ptw.one {c:α}{x:β}(h:Elt.rel F w c x):Ptw F w [c] [x]:=⟨rfl,fun i c' x' hc hx=>by
 match i with
 |0=>simp at hc hx;subst hc hx;exact h
 |i+1=>simp at hc⟩
theorem Ptw.app (h:Ptw F w cs l)(k:Ptw F w ds m):Ptw F w (cs++ds) (l++m):=by
 refine⟨by rw[znk,znk,h.1,k.1],fun i c x hc hx=> ?_⟩;by_cases hi:i<cs.length
 .rw[List.getElem?_append_left hi]at hc
  rw[List.getElem?_append_left (by rw[<-h.1];exact hi)]at hx;exact h.2 i c x hc hx
 .rw[List.getElem?_append_right (by omega)]at hc
  rw[List.getElem?_append_right (by rw[<-h.1];omega),<-h.1]at hx;exact k.2 _ c x hc hx
theorem Ptw.take (h:Ptw F w cs l)(n:Nat):Ptw F w (cs.take n) (l.take n):=by
 refine⟨by simp[h.1],fun i c x hc hx=> ?_⟩;rw[List.getElem?_take]at hc hx;by_cases hi:i<n
 .rw[if_pos hi]at hc hx
  exact h.2 i c x hc hx
 .rw[if_neg hi]at hc
  cases hc
theorem Ptw.drop (h:Ptw F w cs l)(n:Nat):Ptw F w (cs.drop n) (l.drop n):=by
 refine⟨by simp[h.1],fun i c x hc hx=> ?_⟩;rw[List.getElem?_drop]at hc hx;exact h.2 _ c x hc hx
theorem Ptw.erase (h:Ptw F w cs l)(i:Nat):Ptw F w (cs.take i++cs.drop (i+1)) (l.eraseIdx i):=by
 rw[List.eraseIdx_eq_take_drop_succ];exact(h.take i).app (h.drop (i+1))
theorem Ptw.pop (h:Ptw F w cs l):Ptw F w (cs.take (cs.length - 1)) l.dropLast:=by
 rw[List.dropLast_eq_take,<-h.1];exact h.take _
theorem Ptw.set (h:Ptw F w cs l)(i:Nat){c:α}{x:β}(hr:Elt.rel F w c x):Ptw F w (cs.set i c) (l.set i x):=by
 refine⟨by simp[h.1],fun j c' x' hc hx=> ?_⟩;rw[List.getElem?_set]at hc hx;by_cases hj:i=j
 .rw[if_pos hj]at hc hx
  split at hc
  .split at hx
   .cases hc;cases hx;exact hr
   .cases hx
  .cases hc
 .rw[if_neg hj]at hc hx
  exact h.2 j c' x' hc hx
theorem Ptw.keep (h:Ptw F w cs l)(K:Keeps S w w')(hs:∀g,F g->¬S g):Ptw F w' cs l:=⟨h.1,fun i c x hc hx=>Elt.keep (h.2 i c x hc hx) K hs⟩
theorem Ptw.mono (h:Ptw F w cs l)(hs:∀g,F g->g<w.heap.size->G g):Ptw G w cs l:=⟨h.1,fun i c x hc hx=>Elt.mono (h.2 i c x hc hx) hs⟩
theorem Ptw.get (h:Ptw F w cs l){i:Nat}{x:β}(hx:l[i]? =some x):∃c,cs[i]? =some c/\Elt.rel F w c x:=by
 obtain⟨c,A⟩:=yac (l:=cs) (k:=i) (by rw[h.1];exact(zge hx).1);exact⟨c,A,h.2 i c x A hx⟩
end
section
variable{T:MT} {Z:Nat->Prop} {W w1:World} {b:Nat} {v:MV} {p:Img} {s:MS} {v1:Value}
theorem MX.putStk (M:MX T Z W b v p s){cs:List VC}{l1:List Val}(s':MS)(hr:RowAt w1 T.v v1 cs)(hp:Ptw (MZ Z v b) W cs l1)(K:Keeps (fun j=>v.ss.ownBlock=some j) W w1)(hf:∀g,v1.ownBlock=some g->v.ss.ownBlock=some g\/W.heap.size<=g)(hs':s'={s with stk:=l1}):
  MX T Z (w1.setCell ⟨b,0,none⟩ v1) b {v with ss:=v1} p s'/\MK b v W {v with ss:=v1} (w1.setCell ⟨b,0,none⟩ v1):=by
 refine M.setStk s' (XRow.of hr ?_) K hf hs';refine((hp.mono (G:=fun g=>MZ Z v b g/\¬v1.ownBlock=some g) (fun g hg hl=>⟨hg,fun e=> ?_⟩)).keep K (fun g hg e=>hg.1.1 ⟨1,e⟩));rcases hf g e with h|h
 .exact hg.1 ⟨1,h⟩
 .omega
theorem MX.putPls (M:MX T Z W b v p s){cs:List VC}{l1:List Val}(s':MS)(hr:RowAt w1 T.v v1 cs)(hp:Ptw (MZ Z v b) W cs l1)(K:Keeps (fun j=>v.ps.ownBlock=some j) W w1)(hf:∀g,v1.ownBlock=some g->v.ps.ownBlock=some g\/W.heap.size<=g)(hs':s'={s with places:=l1}):
  MX T Z (w1.setCell ⟨b,5,none⟩ v1) b {v with ps:=v1} p s'/\MK b v W {v with ps:=v1} (w1.setCell ⟨b,5,none⟩ v1):=by
 refine M.setPls s' (XRow.of hr ?_) K hf hs';refine((hp.mono (G:=fun g=>MZ Z v b g/\¬v1.ownBlock=some g) (fun g hg hl=>⟨hg,fun e=> ?_⟩)).keep K (fun g hg e=>hg.1.1 ⟨2,e⟩));rcases hf g e with h|h
 .exact hg.1 ⟨2,h⟩
 .omega
theorem MX.putTms (M:MX T Z W b v p s){cs:List TC}{l1:List Th}(s':MS)(hr:RowAt w1 T.t v1 cs)(hp:Ptw (MZ Z v b) W cs l1)(K:Keeps (fun j=>v.ts.ownBlock=some j) W w1)(hf:∀g,v1.ownBlock=some g->v.ts.ownBlock=some g\/W.heap.size<=g)(hs':s'={s with timers:=⟨l1,s.timers.next⟩}):
  MX T Z (w1.setCell ⟨b,12,none⟩ v1) b {v with ts:=v1} p s'/\MK b v W {v with ts:=v1} (w1.setCell ⟨b,12,none⟩ v1):=by
 refine M.setTms s' (XRow.of hr ?_) K hf hs';refine((hp.mono (G:=fun g=>MZ Z v b g/\¬v1.ownBlock=some g) (fun g hg hl=>⟨hg,fun e=> ?_⟩)).keep K (fun g hg e=>hg.1.1 ⟨3,e⟩));rcases hf g e with h|h
 .exact hg.1 ⟨3,h⟩
 .omega
theorem MX.putAcs (M:MX T Z W b v p s){cs:List TC}{l1:List Th}(s':MS)(hr:RowAt w1 T.t v1 cs)(hp:Ptw (MZ Z v b) W cs l1)(K:Keeps (fun j=>v.as_.ownBlock=some j) W w1)(hf:∀g,v1.ownBlock=some g->v.as_.ownBlock=some g\/W.heap.size<=g)(hs':s'={s with acts:=⟨l1,s.acts.next⟩}):
  MX T Z (w1.setCell ⟨b,14,none⟩ v1) b {v with as_:=v1} p s'/\MK b v W {v with as_:=v1} (w1.setCell ⟨b,14,none⟩ v1):=by
 refine M.setAcs s' (XRow.of hr ?_) K hf hs';refine((hp.mono (G:=fun g=>MZ Z v b g/\¬v1.ownBlock=some g) (fun g hg hl=>⟨hg,fun e=> ?_⟩)).keep K (fun g hg e=>hg.1.1 ⟨4,e⟩));rcases hf g e with h|h
 .exact hg.1 ⟨4,h⟩
 .omega
theorem MX.putLts (M:MX T Z W b v p s){cs:List LC}{l1:List Lt}(s':MS)(hr:RowAt w1 T.l v1 cs)(hp:Ptw (MZ Z v b) W cs l1)(K:Keeps (fun j=>v.ls.ownBlock=some j) W w1)(hf:∀g,v1.ownBlock=some g->v.ls.ownBlock=some g\/W.heap.size<=g)(hs':s'={s with letters:=l1}):
  MX T Z (w1.setCell ⟨b,16,none⟩ v1) b {v with ls:=v1} p s'/\MK b v W {v with ls:=v1} (w1.setCell ⟨b,16,none⟩ v1):=by
 refine M.setLts s' (XRow.of hr ?_) K hf hs';refine((hp.mono (G:=fun g=>MZ Z v b g/\¬v1.ownBlock=some g) (fun g hg hl=>⟨hg,fun e=> ?_⟩)).keep K (fun g hg e=>hg.1.1 ⟨5,e⟩));rcases hf g e with h|h
 .exact hg.1 ⟨5,h⟩
 .omega
theorem MX.putMds (M:MX T Z W b v p s){cs:List CC}{l1:List Cm}(s':MS)(hr:RowAt w1 T.c v1 cs)(hp:Ptw (MZ Z v b) W cs l1)(K:Keeps (fun j=>v.ms.ownBlock=some j) W w1)(hf:∀g,v1.ownBlock=some g->v.ms.ownBlock=some g\/W.heap.size<=g)(hs':s'={s with made:=l1}):
  MX T Z (w1.setCell ⟨b,21,none⟩ v1) b {v with ms:=v1} p s'/\MK b v W {v with ms:=v1} (w1.setCell ⟨b,21,none⟩ v1):=by
 refine M.setMds s' (XRow.of hr ?_) K hf hs';refine((hp.mono (G:=fun g=>MZ Z v b g/\¬v1.ownBlock=some g) (fun g hg hl=>⟨hg,fun e=> ?_⟩)).keep K (fun g hg e=>hg.1.1 ⟨6,e⟩));rcases hf g e with h|h
 .exact hg.1 ⟨6,h⟩
 .omega
theorem MZ.step {v':MV}{w':World}(K:MK b v W v' w'){g:Nat}(h:MZ Z v b g)(hl:g<W):MZ Z v' b g:=⟨fun e=>(K.own g e).elim h.1 (fun q=>by omega),h.2⟩
theorem CF.step {v':MV}{w':World}{c:VC}{x:Val}(K:MK b v W v' w')(h:CF (MZ Z v b) W c x):CF (MZ Z v' b) w' c x:=
 ((h.mono (G:=fun g=>MZ Z v b g/\MZ Z v' b g) (fun _ hg hl=>⟨hg,MZ.step K hg hl⟩)).keep K.keeps (fun _ hg e=>hg.1.1 e)).mono (fun _ hg _=>hg.2)
theorem MX.cut (M:MX T Z W b v p s):MX T (fun j=>Z j/\j<W) W b v p s:=M.monoZ (fun _ h l=>⟨h,l⟩)
theorem MX.late {N:Nat}{W':World}(M:MX T (fun j=>Z j/\j<N) W b v p s)(hN:∀j,MO v b j->j<N)(K:Keeps (fun j=>N<=j) W W'):MX T Z W' b v p s:=
 ((M.far K (fun j _ e=>by have:=hN j e;omega) (fun _ h e=>by have:=e.2;omega))).monoZ (fun _ h _=>h.1)
theorem MK.late {v':MV}{w1 w2:World}(K:MK b v W v' w1)(L:Keeps (fun j=>W<=j) w1 w2):MK b v W v' w2:=
 ⟨K.keeps.trans L (fun j hj e=>by omega),K.own⟩
theorem ycJ (F:Nat->Prop)(w:World)(n:Int):CF F w ⟨1,n,⟨#[]⟩,none,0,0⟩ (ybw n):=⟨rfl,rfl,rfl,VF.nil _ _⟩
theorem ybf (F:Nat->Prop)(w:World)(x:Bool):CF F w ⟨1,bif x then 1 else 0,⟨#[]⟩,none,0,0⟩ (yaK x):=⟨rfl,rfl,rfl,VF.nil _ _⟩
theorem yhy (F:Nat->Prop)(w:World)(t:ByteArray):CF F w ⟨2,0,t,none,0,0⟩ (ybR t):=⟨rfl,rfl,rfl,VF.nil _ _⟩
theorem yaH (F:Nat->Prop)(w:World):CF F w ⟨0,0,⟨#[]⟩,none,0,0⟩ yag:=⟨rfl,rfl,rfl,VF.nil _ _⟩
theorem yad {w':World}(hZ:∀j,W.heap.size<=j->Z j)(h:W<=w'.heap.size):∀j,w'.heap.size<=j->Z j:=fun j hj=>hZ j (znf h hj)
end
end Go.Va
namespace Go.Proofs.YtpagmlndgblhhaaGreatDoor
open Go.RowKit Go.Own Go.Own.MapTy Go.Va Go.Sort
open Go.Own.Cells (sz enc)
def TT:MT:=⟨123,38,193,138,52⟩
def MP (Z:Nat->Prop)(W:World)(b:Nat)(v:MV)(p:Img)(r:Value)(s':MS)(e:Ending)(w':World):Prop:=∃v',e= .returned r/\Hid (MX TT Z w' b v' p s'/\MK b v W v' w')
def MPV (Z:Nat->Prop)(W:World)(b:Nat)(v:MV)(p:Img)(x:Val)(s':MS)(e:Ending)(w':World):Prop:=∃(v':MV) (c:VC),e= .returned (.agg #[c.kind,c.n,c.s,.slice c.la c.ln c.lc])/\Hid (MX TT Z w' b v' p s'/\MK b v W v' w'/\CF (MZ Z v' b) w' c x)
theorem yd1 (t:ByteArray)(w:World):Calls Tryz.prog 32 #[t] w (fun e w'=>e= .returned (.agg #[.int .i64 2,.int .i64 0,t,.slice none 0 0])/\Below w w w'):=by
 go_in;go_wp2_with fail;exact zng (v:=.agg #[.int .i64 2,.int .i64 0,t,.slice none 0 0]) (by simp only[results,Tryz.results32];go_simp) rfl ⟨rfl,Keeps.below (S:=fun _=>False) (((Keeps.refl _ _).alloc _)) (znc _) (fun _ _ f=>f)⟩
theorem ybq (x:Bool)(w:World):Calls Tryz.prog 63 #[x] w (fun e w'=>e= .returned (.agg #[.int .i64 1,.int .i64 (bif x then 1 else 0),.string ⟨#[]⟩,.slice none 0 0])/\Below w w w'):=by
 have C:=zhd (ybg (bif x then 1 else 0));cases x
 all_goals
  simp only[znm,znl]at C|-;go_in;go_wp2_with fail;refine(C.o _).mono ?_;rintro e E ⟨rfl,A⟩;have B:=(A.block w (by simp)).trans (znb w _);have D:=zhd (((znv w.heap.size w).alloc (znc _) (.cells #[.int .i64 0,.int .i64 0,.string ⟨#[]⟩,.slice none 0 0] 38)).trans (A.mono (by simp)));have K:=fun o=>zfr B o;have J:=zlt B;have q:∀o,E.cell? ⟨w,o,none⟩=(#[.int .i64 0,.int .i64 0,.string ⟨#[]⟩,.slice none 0 0]:Array Value)[o]? :=fun o=>zch B _;have I:=q 0;have H:=q 1;have G:=q 2;have F:=q 3;simp only[zmc,zma,zmb]at I H G F;clear q B A;go_wp2_with fail
 .exact zng (v:=.agg #[.int .i64 1,.int .i64 0,.string ⟨#[]⟩,.slice none 0 0]) (by simp only[results,Tryz.results63];go_simp) rfl ⟨rfl,yiz D.o _ _ _ _⟩
 .exact zng (v:=.agg #[.int .i64 1,.int .i64 1,.string ⟨#[]⟩,.slice none 0 0]) (by simp only[results,Tryz.results63];go_simp) rfl ⟨rfl,yiz D.o _ _ _ _⟩
theorem yhW (x:Val)(ck cn:Int)(cs:ByteArray)(la:Option Addr)(ln lc:Nat)(F:Nat->Prop)(w:World)(C:CF F w ⟨ck,cn,cs,la,ln,lc⟩ x)(r:Bool)(hr:ycE x=r):Calls Tryz.prog 158 #[.agg #[ck,cn,cs,.slice la ln lc]] w (fun e w'=>e= .returned (.bool r)/\Below w w w'):=by
 have H:ck=x.kind:=C.kind;have G:cn=x.num:=C.n;have E:cs=x.txt:=C.s;have D:ln=x.list.length:=C.l.elem.1;unfold ycE at hr;rw[<-H,<-G,<-E,<-D]at hr;clear C H G E D;by_cases k1:ck=1
 .subst k1
  have hr:(cn !=0)=r:=hr;have I:=zhd hr;cases hn:(cn !=0)with
  |true=>
   rw[hn]at hr;subst hr;clear I;go_in;go_wp2;go_ret;exact⟨rfl,zal⟩
  |false=>
   rw[hn]at hr;subst hr;clear I;go_in;go_wp2;go_ret;exact⟨rfl,zal⟩
 .have K:(ck==1)=false:=by rw[zna];exact k1
  rw[K]at hr;simp only[znl]at hr;by_cases k2:ck=2
  .subst k2
   have hr:(cs.size !=0)=r:=hr;have B:cs.toList.isEmpty= !r:=by
    rw[<-hr,zml];by_cases h0:cs.size=0
    .have:cs.data.toList=[]:=List.length_eq_zero_iff.1 (by simpa using h0)
     rw[this,h0];rfl
    .have A:(cs.size !=0)=true:=by simpa using h0
     rw[A,Bool.not_true,List.isEmpty_eq_false_iff];exact fun e=>h0 (by have:=congrArg List.length e;simpa using this)
   clear hr;go_in;go_wp2;go_ret;exact⟨by first|rfl|(rw[<-Bool.not_not r];rfl)|(simp;done),zal⟩
  .have A:(ck==2)=false:=by rw[zna];exact k2
   rw[A]at hr;simp only[znl]at hr;by_cases k3:ck=3
   .subst k3
    have hr:decide (0<ln)=r:=hr;have B:decide ((0:Int)<(ln:Int))=r:=by rw[<-hr];simp
    go_in;go_wp2;go_ret;exact⟨by first|rfl|rw[hr]|rw[B],zal⟩
   .have J:(ck==3)=false:=by rw[zna];exact k3
    rw[J]at hr;have hr:false=r:=hr;subst hr;go_in;go_wp2;go_ret;exact⟨rfl,zal⟩
theorem ylF {Z:Nat->Prop}{W wx w1:World}{b n g1 off1 cp cap:Nat}{a:Option Addr}{v:MV}{p:Img}{s:MS}{x:Val}{c z:VC}{ks:List VC}(M:MX TT Z W b v p s)(hv:v.ss= .slice a n cap)(hn:ks.length=n)(hP:Ptw (MZ Z v b) W ks s.stk)(C:CF (MZ Z v b) W c x)(B0:Below W W wx)
  (hr:RowAt w1 38 (.slice (some ⟨g1,off1,none⟩) (n+1) cp) (ks++[z]))(hk:Keeps (fun j=>(Value.slice a n cap).ownBlock=some j) wx w1)(hf:∀g,(Value.slice (some ⟨g1,off1,none⟩) (n+1) cp).ownBlock=some g->(Value.slice a n cap).ownBlock=some g\/wx.heap.size<=g):
  MX TT Z (((((w1.setCell ⟨g1,off1+n*4,none⟩ (.int .i64 c.kind)).setCell ⟨g1,off1+n*4+1,none⟩ (.int .i64 c.n)).setCell ⟨g1,off1+n*4+2,none⟩ (.string c.s)).setCell ⟨g1,off1+n*4+3,none⟩ (.slice c.la c.ln c.lc)).setCell ⟨b,0,none⟩ (.slice (some ⟨g1,off1,none⟩) (n+1) cp)) b {v with ss:=.slice (some ⟨g1,off1,none⟩) (n+1) cp} p (s.push x)/\
  MK b v W {v with ss:=.slice (some ⟨g1,off1,none⟩) (n+1) cp} (((((w1.setCell ⟨g1,off1+n*4,none⟩ (.int .i64 c.kind)).setCell ⟨g1,off1+n*4+1,none⟩ (.int .i64 c.n)).setCell ⟨g1,off1+n*4+2,none⟩ (.string c.s)).setCell ⟨g1,off1+n*4+3,none⟩ (.slice c.la c.ln c.lc)).setCell ⟨b,0,none⟩ (.slice (some ⟨g1,off1,none⟩) (n+1) cp)):=by
 have D:=hr.set (i:=n) (by simp;omega) c;have F:(ks++[z]).set n c=ks++[c]:=by
  rw[List.set_append_right _ _ (by omega),show n - ks.length=0 from by omega];rfl
 rw[F]at D;have B:RowAt ((((w1.setCell ⟨g1,off1+n*4,none⟩ (.int .i64 c.kind)).setCell ⟨g1,off1+n*4+1,none⟩ (.int .i64 c.n)).setCell ⟨g1,off1+n*4+2,none⟩ (.string c.s)).setCell ⟨g1,off1+n*4+3,none⟩ (.slice c.la c.ln c.lc)) 38 (.slice (some ⟨g1,off1,none⟩) (n+1) cp) (ks++[c]):=D;have A:(Value.slice a n cap).ownBlock=some g1\/wx<=g1:=hf g1 rfl;have H:Keeps (fun j=>(Value.slice a n cap).ownBlock=some j) wx ((((w1.setCell ⟨g1,off1+n*4,none⟩ (.int .i64 c.kind)).setCell ⟨g1,off1+n*4+1,none⟩ (.int .i64 c.n)).setCell ⟨g1,off1+n*4+2,none⟩ (.string c.s)).setCell ⟨g1,off1+n*4+3,none⟩ (.slice c.la c.ln c.lc)):=
  (((hk.setCell (p:=⟨g1,off1+n*4,none⟩) A _).setCell (p:=⟨g1,off1+n*4+1,none⟩) A _).setCell (p:=⟨g1,off1+n*4+2,none⟩) A _).setCell (p:=⟨g1,off1+n*4+3,none⟩) A _
 have G:=(zkb (S:=fun _=>False) B0).mono (T:=fun j=>(Value.slice a n cap).ownBlock=some j) (fun _ _ f=>f.elim);have E:=G.trans H (fun _ _ e=>e);rw[<-hv]at E;exact M.putStk (s.push x) B (hP.app (Ptw.one C)) E (fun g A=>by
  rw[hv];rcases hf g A with h|h
  .exact .inl h
  .exact .inr (znf B0.size h)) rfl
theorem yaj
  {Z:Nat->Prop}(b:Nat)(v:MV)(p:Img)(s:MS)(W:World)(M:MX TT Z W b v p s)
  (x:Val)(ck cn:Int)(cs:ByteArray)(la:Option Addr)(ln lc:Nat)(C:CF (MZ Z v b) W ⟨ck,cn,cs,la,ln,lc⟩ x)(hl:s.stk.length<=4294967296):
  Calls Tryz.prog 119 #[.pointer (some ⟨b,0,none⟩),.agg #[ck,cn,cs,.slice la ln lc]] W (MP Z W b v p (.tuple #[]) (s.push x)):=by
 obtain⟨ss,ic,ps,Aa,ts,Ad,ls,ms⟩:=v;obtain⟨a,cap,rfl⟩:∃a cap,ss= .slice a s.stk.length cap:=M.stk.slice;obtain⟨U,t,i⟩:=M.stk.cells;obtain⟨wr,D⟩:∃wr,wr=W.alloc (.cells #[ck,cn,cs,.slice la ln lc] 38):=⟨_,rfl⟩;have r:=zlt M.h;have R:=zba D;have q:∀o,wr.cell? ⟨W,o,none⟩=(#[.int .i64 ck,.int .i64 cn,.string cs,.slice la ln lc]:Array Value)[o]? :=fun o=>by rw[D,zch (znb _ _)]
 have f:=q 0;have d:=q 1;have Y:=q 2;have X:=q 3;simp only[zmc,zma,zmb]at f d Y X;have lr:W<wr.heap.size:=by rw[D];simp
 have b1:b<wr:=by omega
 have c1:wr.cell? ⟨b,0,none⟩=some (.slice a s.stk.length cap):=(R.cell (p:=⟨b,0,none⟩) r).trans (M.cell (k:=0) rfl);have z:∀o,wr.frozen? ⟨b,o,none⟩=false:=fun o=>(R.frozen (p:=⟨b,o,none⟩) r).trans (M.frozen o);have n:∀g,(Value.slice a s.stk.length cap).ownBlock=some g->g≠b/\g≠W.heap.size:=fun g hg=>⟨fun e=>absurd (M.sep 1 0 g hg (by rw[e];rfl)) (by decide),fun e=>by have:=M.stk.lt hg;omega⟩;have K:=zh5 M (t.below R) i C R;have NB:=zhd n;have n6:¬W.heap.size=b:=by omega
 have P:=i.1;have J:=zhd (show(U.length+[(⟨0,0,⟨#[]⟩,none,0,0⟩:VC)].length)*56<=140737488355328/\U.length+[(⟨0,0,⟨#[]⟩,none,0,0⟩:VC)].length<=maxLen/\U.length+[(⟨0,0,⟨#[]⟩,none,0,0⟩:VC)].length=s.stk.length+1 from by unfold maxLen;simp;omega);have Ab:(s.stk.length:Int)<(s.stk.length:Int)+1:=by omega
 have Ac:(0:Int)<=(s.stk.length:Int):=by omega
 have Q:=zhd P;clear n q t i C M R P;go_in;go_wp2_with fail;rw[<-D];clear D;go_region_law ((refine yay (α:=VC) (o:=⟨some 11,_,_,_,_,_⟩) yfD (by rfl) (.tmp 7) (.tmp 10) (by rfl) (v:=.slice a s.stk.length cap) (u:=.slice (some ⟨wr,0,none⟩) 1 1) (by rfl) (by rfl) (xs:=U) (ys:=[⟨0,0,⟨#[]⟩,none,0,0⟩]) ((K.o.2.1.drew).alloc _) (RowAt.lit (α:=VC) (y:=⟨0,0,⟨#[]⟩,none,0,0⟩) (znb _ _)) J.o.1 J.o.2.1 (s.stk.length+1) J.o.2.2 ?_;intro a1 cp l G H I;obtain⟨E,A,rfl,⟨m0,m1,m2,m3⟩,fm,m,L,N,⟨T,n2,n3,n4⟩,l1,l2,l3⟩:=ygD (b:=b) (B:=W.heap.size) Q.o G H I b1 lr NB.o;have y1:=(m 0).trans c1;have y2:=(N 0).trans f;have y3:=(N 1).trans d;have y4:=(N 2).trans Y;have y5:=(N 3).trans X;have y6:=fun o=>(L o).trans (z o);have j:=zh3 G H I;clear G H I m L N))
 all_goals
  obtain⟨V,F⟩:∃V,V=((((l.setCell ⟨E,A+s.stk.length*4,none⟩ (.int .i64 ck)).setCell ⟨E,A+s.stk.length*4+1,none⟩ (.int .i64 cn)).setCell ⟨E,A+s.stk.length*4+2,none⟩ (.string cs)).setCell ⟨E,A+s.stk.length*4+3,none⟩ (.slice la ln lc)).setCell ⟨b,0,none⟩ (.slice (some ⟨E,A,none⟩) (s.stk.length+1) cp):=⟨_,rfl⟩;have O:V=((((l.setCell ⟨b,0,none⟩ (.slice (some ⟨E,A,none⟩) (s.stk.length+1) cp)).setCell ⟨E,A+s.stk.length*4,none⟩ (.int .i64 ck)).setCell ⟨E,A+s.stk.length*4+1,none⟩ (.int .i64 cn)).setCell ⟨E,A+s.stk.length*4+2,none⟩ (.string cs)).setCell ⟨E,A+s.stk.length*4+3,none⟩ (.slice la ln lc):=by rw[F,yaP T,yaP T,yaP T,yaP T]
  first
  |rw[<-F]
  |rw[<-O]
  have S:=ylF (c:=⟨ck,cn,cs,la,ln,lc⟩) (x:=x) K.o.1 rfl Q.o K.o.2.2.1 K.o.2.2.2.1 ((K.o.2.2.2.2.drew).alloc (by have:=K.o.2.2.2.2.size;exact this) _) j.o.1 j.o.2.1 j.o.2.2;rw[<-F]at S;have HS:=zhd S;clear S F O y1 y2 y3 y4 y5 y6 m0 m1 m2 m3 fm c1 z f d Y X;go_wp2_with fail
  go_end0
  exact⟨_,rfl,zhd HS.o⟩
theorem yj4 {Z:Nat->Prop}{W wx wy:World}{b n cap:Nat}{a:Option Addr}{v:MV}{p:Img}{s:MS}{ks:List VC}{c:VC}{x:Val}(M:MX TT Z W b v p s)(hv:v.ss= .slice a n cap)(hn:s.stk.length=n)(hR:RowAt W 38 (.slice a n cap) ks)(hP:Ptw (MZ Z v b) W ks s.stk)(C:CF (MZ Z v b) W c x)
  (B0:Below W W wx)(L:Keeps (fun j=>W<=j) (wx.setCell ⟨b,0,none⟩ (.slice a (n - 1) (n - 1))) wy):
  MX TT Z wy b {v with ss:=.slice a (n - 1) (n - 1)} p s.pop/\MK b v W {v with ss:=.slice a (n - 1) (n - 1)} wy/\CF (MZ Z {v with ss:=.slice a (n - 1) (n - 1)} b) wy c x:=by
 have E:ks.length=n:=by rw[hP.1,hn]
 obtain⟨H,F⟩:=RowAt.pre3 hR (n:=n - 1) (by omega);have B:=hP.pop;rw[E]at B;have G:=(zkb (S:=fun _=>False) B0).mono (T:=fun j=>v.ss.ownBlock=some j) (fun _ _ f=>f.elim);have A:∀g,(Value.slice a (n - 1) (n - 1)).ownBlock=some g->v.ss.ownBlock=some g:=fun g hg=>by
  rw[hv];cases a with
  |none=>cases hg
  |some ad=>exact hg
 have S:=M.cut.putStk (v1:=.slice a (n - 1) (n - 1)) s.pop (F.below B0) (B.mono (fun g h l=>⟨h.1,h.2,l⟩)) G (fun g hg=>.inl (A g hg)) rfl;have D:=S.2.late L;refine⟨S.1.late (fun j hj=> ?_) L,D,C.step D⟩;rcases S.2.own j hj with h|h
 .exact M.lt h
 .rcases MO.turned (v:=v) (i0:=1) (fun i hi=>by
   match i with
   |0=>rfl
   |1=>exact absurd rfl hi
   |2=>rfl
   |3=>rfl
   |4=>rfl
   |5=>rfl
   |6=>rfl
   |_+7=>rfl) hj with h|h
  .exact M.lt h
  .exact M.lt ⟨1,A j h⟩
theorem yai
  {Z:Nat->Prop}(b:Nat)(v:MV)(p:Img)(s:MS)(W:World)(M:MX TT Z W b v p s)
  :Calls Tryz.prog 159 #[.pointer (some ⟨b,0,none⟩)] W (MPV Z W b v p s.top s.pop):=by
 obtain⟨Y,ic,r,c,q,m,ls,u⟩:=v;obtain⟨a,cap,rfl⟩:∃a cap,Y= .slice a s.stk.length cap:=M.stk.slice;obtain⟨ks,A,E⟩:=M.stk.cells;have b1:=zlt M.h;have c1:W.cell? ⟨b,0,none⟩=some (.slice a s.stk.length cap):=M.cell (k:=0) rfl;have f0:∀o,W.frozen? ⟨b,o,none⟩=false:=fun o=>M.frozen o;have I:=zh3 M A E;by_cases h0:s.stk.length=0
 .have J:s.stk=[]:=List.length_eq_zero_iff.1 h0
  have F:s.top=yag:=by unfold MS.top;rw[J];rfl
  have V:s.pop=s:=by unfold MS.pop;rw[J];simp only[List.dropLast_nil];rw[<-J]
  have D:=zh2 F V;have R:((s.stk.length:Int)==0)=true:=by rw[beq_iff_eq];omega
  clear J F V A E M h0;go_in;go_wp2_with fail;exact zng (v:=.agg #[.int .i64 0,.int .i64 0,.string ⟨#[]⟩,.slice none 0 0]) (by simp only[results,Tryz.results159];go_simp) rfl ⟨_,⟨0,0,⟨#[]⟩,none,0,0⟩,rfl,zhd (by
   have B:Below W W _:=(znv W.heap.size W).alloc (znc _) (.cells #[.int .i64 0,.int .i64 0,.string ⟨#[]⟩,.slice none 0 0] 38);rw[D.o.1,D.o.2];exact⟨I.o.1.ext B,MK.ext B,yaH _ _⟩)⟩
 .obtain⟨n,K⟩:∃n,s.stk.length=n+1:=⟨s.stk.length - 1,by omega⟩
  obtain⟨x,P⟩:=yac (l:=s.stk) (k:=n) (by omega);obtain⟨⟨U,T,S,O,L,N⟩,Q,X⟩:=E.get P;obtain⟨g,C,rfl,hg⟩:=A.addr Q;have H:=fun(j:Nat) (hj:j<4)=>A.cell Q (j:=j) hj;have m0:W.cell? ⟨g,C+n*4,none⟩=some (.int .i64 U):=H 0 (by decide);have m1:W.cell? ⟨g,C+n*4+1,none⟩=some (.int .i64 T):=by rw[zmm];exact H 1 (by decide)
  have z:W.cell? ⟨g,C+n*4+2,none⟩=some (.string S):=by rw[zmm];exact H 2 (by decide)
  have y:W.cell? ⟨g,C+n*4+3,none⟩=some (.slice O L N):=by rw[zmm];exact H 3 (by decide)
  have F:s.top=x:=by
   unfold MS.top;rw[List.getLast?_eq_getElem?,show s.stk.length - 1=n from by omega,P];rfl
  have D:=zh3 F X K;have t:¬g=b:=fun e=>absurd (I.o.1.sep 1 0 g rfl (by rw[e];rfl)) (by decide);rw[K]at c1;have R:(((n+1:Nat):Int)==0)=false:=by rw[zna];omega
  have G:(n:Int)<9223372036854775807:=by
   have i:=A.length_le;have:=E.1;unfold maxLen at i;omega
  have d:wrap64 (n:Int)=(n:Int):=by unfold wrap64;omega
  clear G;obtain⟨f,_⟩:=ykV yfD (K▸A) (k:=n) (by have:=E.1;omega);clear X F Q P H A E M K;go_in;go_wp2_with fail;exact zng (v:=.agg #[U,T,S,.slice O L N]) (by simp only[results,Tryz.results159];go_simp) rfl ⟨_,⟨U,T,S,O,L,N⟩,rfl,zhd (by
   have A:=I.o.2.1;rw[D.o.2.2]at A;rw[D.o.1];exact yj4 (n:=n+1) (x:=x) (wx:=W) I.o.1 (by rw[D.o.2.2]) D.o.2.2 A I.o.2.2 D.o.2.1 (znv _ _) ((((Keeps.refl (fun j=>W<=j) _).alloc _).alloc _)))⟩
theorem ybI
  {Z:Nat->Prop}(b:Nat)(v:MV)(p:Img)(s:MS)(W:World)(M:MX TT Z W b v p s)
  :Calls Tryz.prog 160 #[.pointer (some ⟨b,0,none⟩)] W (MPV Z W b v p s.top s):=by
 obtain⟨X,ic,m,Y,i,f,z,q⟩:=v;obtain⟨a,cap,rfl⟩:∃a cap,X= .slice a s.stk.length cap:=M.stk.slice;obtain⟨ks,C,F⟩:=M.stk.cells;have b1:=zlt M.h;have c1:W.cell? ⟨b,0,none⟩=some (.slice a s.stk.length cap):=M.cell (k:=0) rfl;have V:=zh3 M C F;by_cases h0:s.stk.length=0
 .have S:s.stk=[]:=List.length_eq_zero_iff.1 h0
  have D:s.top=yag:=by unfold MS.top;rw[S];rfl
  have O:=zhd D;have R:decide (0<s.stk.length)=false:=znd (by omega);have e:¬0<s.stk.length:=by omega
  clear S D C F M h0;go_in;go_wp2_with fail;exact zng (v:=.agg #[.int .i64 0,.int .i64 0,.string ⟨#[]⟩,.slice none 0 0]) (by simp only[results,Tryz.results160];go_simp) rfl ⟨_,⟨0,0,⟨#[]⟩,none,0,0⟩,rfl,zhd (by
   have B:Below W W _:=(znv W.heap.size W).alloc (znc _) (.cells #[.int .i64 0,.int .i64 0,.string ⟨#[]⟩,.slice none 0 0] 38);rw[O.o];exact⟨V.o.1.ext B,MK.ext B,yaH _ _⟩)⟩
 .obtain⟨n,T⟩:∃n,s.stk.length=n+1:=⟨s.stk.length - 1,by omega⟩
  obtain⟨x,P⟩:=yac (l:=s.stk) (k:=n) (by omega);obtain⟨⟨N,L,K,J,H,I⟩,Q,U⟩:=F.get P;obtain⟨g,A,rfl,hg⟩:=C.addr Q;have G:=fun(j:Nat) (hj:j<4)=>C.cell Q (j:=j) hj;have y:W.cell? ⟨g,A+n*4,none⟩=some (.int .i64 N):=G 0 (by decide);have u:W.cell? ⟨g,A+n*4+1,none⟩=some (.int .i64 L):=by rw[zmm];exact G 1 (by decide)
  have t:W.cell? ⟨g,A+n*4+2,none⟩=some (.string K):=by rw[zmm];exact G 2 (by decide)
  have r:W.cell? ⟨g,A+n*4+3,none⟩=some (.slice J H I):=by rw[zmm];exact G 3 (by decide)
  have D:s.top=x:=by
   unfold MS.top;rw[List.getLast?_eq_getElem?,show s.stk.length - 1=n from by omega,P];rfl
  have O:=zh2 D U;rw[T]at c1;have R:decide ((0:Int)<((n:Int)+1))=true:=zno (by omega);have E:(n:Int)<9223372036854775807:=by
   have d:=C.length_le;have:=F.1;unfold maxLen at d;omega
  have c:wrap64 (n:Int)=(n:Int):=by unfold wrap64;omega
  clear E U D Q P G C F M T h0;go_in;go_wp2_with fail;exact zng (v:=.agg #[N,L,K,.slice J H I]) (by simp only[results,Tryz.results160];go_simp) rfl ⟨_,⟨N,L,K,J,H,I⟩,rfl,zhd (by
   have B:Below W W _:=(znv W.heap.size W).alloc (znc _) (.cells #[N,L,K,.slice J H I] 38);rw[O.o.1];exact⟨V.o.1.ext B,MK.ext B,CF.step (MK.ext B) O.o.2⟩)⟩
theorem yeV:ElemOf TC Tryz.prog 118 193 80:=yb5 Tryz.underlying118 (z:=.agg #[.int .i64 0,.bool false,.int .i64 0,.int .i64 0,.string .empty,.slice none 0 0,.int .i64 0]) (n:=7) (by kernel_rfl) rfl rfl
theorem ykR:ElemOf LC Tryz.prog 121 138 72:=yb5 Tryz.underlying121 (z:=.agg #[.string .empty,.int .i64 0,.int .i64 0,.string .empty,.slice none 0 0]) (n:=5) (by kernel_rfl) rfl rfl
theorem ymc:ElemOf CC Tryz.prog 41 52 104:=yb5 Tryz.underlying41 (z:=.agg #[.int .i64 0,.int .i64 0,.int .i64 0,.int .i64 0,.string .empty,.int .i64 0,.int .i64 0,.string .empty,.slice none 0 0]) (n:=9) (by kernel_rfl) rfl rfl
def ybB (id:Int)(l:List Th):Int:=match yav id l with|none=> -1|some i=>(i:Int)
def ltI (nm:ByteArray)(l:List Lt):Int:=match yap nm l with|none=> -1|some i=>(i:Int)
theorem yji {id:Int}{l:List Th}{i:Nat}{x:Th}{r:Option Nat}(hx:l[i]? =some x)(hne:x.id≠id)(h:r=(yav id (l.drop i)).map (· +i)):r=(yav id (l.drop (i+1))).map (· +(i+1)):=by
 rw[h,yc6 hx,yav,if_neg hne];cases yav id (l.drop (i+1))with
 |none=>rfl
 |some j=>show some (j+1+i)=some (j+(i+1));congr 1;omega
theorem yjj {id:Int}{l:List Th}{i:Nat}{x:Th}{r:Option Nat}(hx:l[i]? =some x)(he:x.id=id)(h:r=(yav id (l.drop i)).map (· +i)):r=some i:=by
 rw[h,yc6 hx,yav,if_pos he];show some (0+i)=some i;rw[Nat.zero_add]
theorem yhr {id:ByteArray}{l:List Lt}{i:Nat}{x:Lt}{r:Option Nat}(hx:l[i]? =some x)(hne:x.name≠id)(h:r=(yap id (l.drop i)).map (· +i)):r=(yap id (l.drop (i+1))).map (· +(i+1)):=by
 rw[h,yc6 hx,yap,if_neg hne];cases yap id (l.drop (i+1))with
 |none=>rfl
 |some j=>show some (j+1+i)=some (j+(i+1));congr 1;omega
theorem yhs {id:ByteArray}{l:List Lt}{i:Nat}{x:Lt}{r:Option Nat}(hx:l[i]? =some x)(he:x.name=id)(h:r=(yap id (l.drop i)).map (· +i)):r=some i:=by
 rw[h,yc6 hx,yap,if_pos he];show some (0+i)=some i;rw[Nat.zero_add]
theorem yih {r:Option Nat}:r=r.map (· +0):=by cases r<;>rfl
def ypN (W:World)(id:Int)(l:List Th)(gk:Nat)(v11:Value)(wr:World):Prop:=
 ∃i:Nat,v11= .int .i64 i/\i<=l.length/\gk=l.length - i/\yav id l=(yav id (l.drop i)).map (· +i)/\wr=W
theorem yaR (b o:Nat)(id:Int)(l:List Th)(a:Option Addr)(cap:Nat)(F:Nat->Prop)(W:World)(c0:W.cell? ⟨b,o,none⟩=some (.slice a l.length cap))(H:XRow F W 193 (.slice a l.length cap) l)(hb:b<W)(r:Int)(hr:ybB id l=r):
  Calls Tryz.prog 138 #[.pointer (some ⟨b,o,none⟩),id] W (fun e w'=>e= .returned (.int .i64 r)/\w'=W):=by
 have I:l.length<=maxLen:=by
  obtain⟨X,Q,P,_⟩:=H;rw[<-P];exact Q.length_le
 have M:=zh2 H hr;clear H hr;go_in;go_wp2_with fail;go_loopg [11] (l.length) (fun gk v11 wr=>ypN W id l gk v11 wr)
 case atStart=>exact⟨0,rfl,znq _,rfl,yih,rfl⟩
 case round=>
  obtain⟨i,rfl,U,A,D,rfl⟩:=hrel;by_cases hin:i<l.length
  .obtain⟨x,G⟩:=yac hin
   obtain⟨g,O,c,rfl,V,L,_,B⟩:=M.o.1.at_ G;have N:=B 0 _ rfl;have C:c.id=x.id:=L.id;rw[C]at N;simp only[sz,Nat.add_zero]at N;have E:(i:Int)<l.length:=by omega
   have S:=zhd (show l.length - (i+1)<gk from by omega);have R:=zhd (show wrap64 ((i:Int)+1)=(i:Int)+1 from by unfold maxLen at I;unfold wrap64;omega);have J:i+1<=l.length:=by omega
   by_cases he:x.id=id
   .have K:(x.id==id)=true:=by rw[beq_iff_eq];exact he
    have hr:=M.o.2;unfold ybB at hr;rw[yjj G he D]at hr;have hr:(i:Int)=r:=hr;subst hr;clear D B L C A he;go_wp2;go_ret;exact⟨rfl,rfl⟩
   .have K:(x.id==id)=false:=by rw[zna];exact he
    have T:=zhd (yji G he D);clear D B L C A he;go_wp2_with fail;go_roundg (l.length - (i+1))
    case measure=>exact S.o
    case rel=>exact⟨i+1,by rw[R.o];simp,J,rfl,T.o,rfl⟩
  .have E:¬(i:Int)<l.length:=by omega
   have hr:=M.o.2;unfold ybB at hr;rw[D,zns (by omega)]at hr;have hr:(-1:Int)=r:=hr;subst hr;clear D A;go_wp2;go_ret;exact⟨rfl,rfl⟩
theorem ygx
  {Z:Nat->Prop}(b:Nat)(v:MV)(p:Img)(s:MS)(W:World)(M:MX TT Z W b v p s)
  (hn:0<=s.timers.next/\s.timers.next<=4611686018427387904)(hl:s.timers.list.length<=4294967296)(s':MS)(hs':s'={s with timers:=ycl s.timers}):
  Calls Tryz.prog 180 #[.pointer (some ⟨b,12,none⟩)] W (MP Z W b v p (.int .i64 (s.timers.next+1)) s'):=by
 obtain⟨t,ic,z,l,j,q,ls,ms⟩:=v;obtain⟨a,cap,rfl⟩:∃a cap,j= .slice a s.timers.list.length cap:=M.tms.slice;obtain⟨k,hk⟩:∃k,s.timers.next=k:=⟨_,rfl⟩;have hw:wrap64 (k+1)=k+1:=by unfold wrap64;omega
 have n:=zlt M.h;have c1:W.cell? ⟨b,12+1,none⟩=some (.int .i64 k):=by rw[<-hk];exact M.cell (k:=12+1) rfl
 have O:∀o,W.frozen? ⟨b,o,none⟩=false:=fun o=>M.frozen o;have V:=M.scalar (12+1) (.int .i64 (k+1)) {s with timers:=⟨s.timers.list,k+1⟩} rfl rfl rfl rfl rfl rfl rfl rfl;have D:=zh5 V hs' hk hl hn;clear V M hs' hk hl hn;go_in;go_wp2_with fail;obtain⟨wr,A⟩:∃wr,wr=W.setCell ⟨b,12+1,none⟩ (.int .i64 (k+1)):=⟨_,rfl⟩;have C:=zh2 (A▸D.o.1.1) (A▸D.o.1.2);rw[<-A];clear A c1 O n;have c0:wr.cell? ⟨b,12,none⟩=some (.slice a s.timers.list.length cap):=C.o.1.cell (k:=12) rfl;have c1:wr.cell? ⟨b,12+1,none⟩=some (.int .i64 (k+1)):=C.o.1.cell (k:=12+1) rfl;have O:∀o,wr.frozen? ⟨b,o,none⟩=false:=fun o=>C.o.1.frozen o;have m:=zlt C.o.1.h;obtain⟨G,R,L⟩:=C.o.1.tms.cells;have N:G.length=s.timers.list.length:=L.1;have Y:=zh2 R L;have r:=zhd (show∀g,(Value.slice a s.timers.list.length cap).ownBlock=some g->g≠b from fun g hg e=>absurd (C.o.1.sep 3 0 g hg (by rw[e];rfl)) (by decide))
 have F:=zhd (show(G.length+[(⟨k+1,false,⟨0,0,⟨#[]⟩,none,0,0⟩,0⟩:TC)].length)*80<=140737488355328/\G.length+[(⟨k+1,false,⟨0,0,⟨#[]⟩,none,0,0⟩,0⟩:TC)].length<=maxLen/\G.length+[(⟨k+1,false,⟨0,0,⟨#[]⟩,none,0,0⟩,0⟩:TC)].length=s.timers.list.length+1 from by have:=D.o.2.2.2.1;unfold maxLen;simp;omega);clear R L N;go_region_law ((refine yay (α:=TC) (o:=⟨some 21,_,_,_,_,_⟩) yeV (by rfl) (.tmp 14) (.tmp 20) (by rfl) (v:=.slice a s.timers.list.length cap) (u:=.slice (some ⟨wr,0,none⟩) 1 1) (by rfl) (by rfl) (xs:=G) (ys:=[⟨k+1,false,⟨0,0,⟨#[]⟩,none,0,0⟩,0⟩]) ((Y.o.1.drew).alloc _) (RowAt.lit (α:=TC) (y:=⟨k+1,false,⟨0,0,⟨#[]⟩,none,0,0⟩,0⟩) (znb _ _)) F.o.1 F.o.2.1 (s.timers.list.length+1) F.o.2.2 ?_;intro U T w1 I E J;have B:=(E.block b (by simp;omega) (fun e=>r.o _ e rfl)).trans ((zne _ _ _ m).trans C.o.1.h);have i:w1.cell? ⟨b,12,none⟩=some (.slice a s.timers.list.length cap):=(by rw[zch B];rfl);have d:∀o,w1.frozen? ⟨b,o,none⟩=false:=(fun o=>zfr B o);have c:b<w1:=zlt B;have P:=zh3 I E J;clear I E J B))
 all_goals
  have Q:Below wr wr (wr.drew.alloc (.cells (enc (⟨k+1,false,⟨0,0,⟨#[]⟩,none,0,0⟩,0⟩:TC)).toArray 193)):=((znv wr.heap.size wr).drew).alloc (znc _) _;have S:=C.o.1.putTms (v1:=.slice U (s.timers.list.length+1) T) s' P.o.1 (Y.o.2.app (Ptw.one (x:=⟨k+1,false,yag,0⟩) ⟨rfl,rfl,yaH _ _,rfl⟩)) (((zkb (S:=fun _=>False) Q).mono (fun _ _ f=>f.elim)).trans P.o.2.1 (fun _ _ e=>e)) (fun g hg=>(P.o.2.2 g hg).imp id (fun h=>znf Q.size h)) (by rw[D.o.2.1];unfold ycl;rw[D.o.2.2.1];rfl);obtain⟨K,H⟩:∃K,K=w1.setCell ⟨b,12,none⟩ (.slice U (s.timers.list.length+1) T):=⟨_,rfl⟩;rw[<-H]at S|-;have X:=zhd S;have d1:K.cell? ⟨b,12+1,none⟩=some (.int .i64 (k+1)):=by
   have:=S.1.cell (k:=12+1) (u:=.int .i64 s'.timers.next) rfl;rw[this,D.o.2.1,<-D.o.2.2.1];rfl
  have bz:=zlt S.1.h;have fz:∀o,K.frozen? ⟨b,o,none⟩=false:=fun o=>S.1.frozen o;clear S H i d c c0 c1 O Q;go_wp2;go_ret;exact⟨_,by rw[D.o.2.2.1];rfl,zhd ⟨X.o.1,C.o.2.trans X.o.2⟩⟩
theorem ygy
  {Z:Nat->Prop}(b:Nat)(v:MV)(p:Img)(s:MS)(W:World)(M:MX TT Z W b v p s)
  (hn:0<=s.acts.next/\s.acts.next<=4611686018427387904)(hl:s.acts.list.length<=4294967296)(s':MS)(hs':s'={s with acts:=ycl s.acts}):
  Calls Tryz.prog 180 #[.pointer (some ⟨b,14,none⟩)] W (MP Z W b v p (.int .i64 (s.acts.next+1)) s'):=by
 obtain⟨t,ic,z,l,r,P,ls,ms⟩:=v;obtain⟨a,cap,rfl⟩:∃a cap,P= .slice a s.acts.list.length cap:=M.acs.slice;obtain⟨k,hk⟩:∃k,s.acts.next=k:=⟨_,rfl⟩;have hw:wrap64 (k+1)=k+1:=by unfold wrap64;omega
 have n:=zlt M.h;have c1:W.cell? ⟨b,14+1,none⟩=some (.int .i64 k):=by rw[<-hk];exact M.cell (k:=14+1) rfl
 have O:∀o,W.frozen? ⟨b,o,none⟩=false:=fun o=>M.frozen o;have X:=M.scalar (14+1) (.int .i64 (k+1)) {s with acts:=⟨s.acts.list,k+1⟩} rfl rfl rfl rfl rfl rfl rfl rfl;have D:=zh5 X hs' hk hl hn;clear X M hs' hk hl hn;go_in;go_wp2_with fail;obtain⟨wr,A⟩:∃wr,wr=W.setCell ⟨b,14+1,none⟩ (.int .i64 (k+1)):=⟨_,rfl⟩;have C:=zh2 (A▸D.o.1.1) (A▸D.o.1.2);rw[<-A];clear A c1 O n;have c0:wr.cell? ⟨b,14,none⟩=some (.slice a s.acts.list.length cap):=C.o.1.cell (k:=14) rfl;have c1:wr.cell? ⟨b,14+1,none⟩=some (.int .i64 (k+1)):=C.o.1.cell (k:=14+1) rfl;have O:∀o,wr.frozen? ⟨b,o,none⟩=false:=fun o=>C.o.1.frozen o;have m:=zlt C.o.1.h;obtain⟨G,T,L⟩:=C.o.1.acs.cells;have N:G.length=s.acts.list.length:=L.1;have c:=zh2 T L;have q:=zhd (show∀g,(Value.slice a s.acts.list.length cap).ownBlock=some g->g≠b from fun g hg e=>absurd (C.o.1.sep 4 0 g hg (by rw[e];rfl)) (by decide))
 have F:=zhd (show(G.length+[(⟨k+1,false,⟨0,0,⟨#[]⟩,none,0,0⟩,0⟩:TC)].length)*80<=140737488355328/\G.length+[(⟨k+1,false,⟨0,0,⟨#[]⟩,none,0,0⟩,0⟩:TC)].length<=maxLen/\G.length+[(⟨k+1,false,⟨0,0,⟨#[]⟩,none,0,0⟩,0⟩:TC)].length=s.acts.list.length+1 from by have:=D.o.2.2.2.1;unfold maxLen;simp;omega);clear T L N;go_region_law ((refine yay (α:=TC) (o:=⟨some 21,_,_,_,_,_⟩) yeV (by rfl) (.tmp 14) (.tmp 20) (by rfl) (v:=.slice a s.acts.list.length cap) (u:=.slice (some ⟨wr,0,none⟩) 1 1) (by rfl) (by rfl) (xs:=G) (ys:=[⟨k+1,false,⟨0,0,⟨#[]⟩,none,0,0⟩,0⟩]) ((c.o.1.drew).alloc _) (RowAt.lit (α:=TC) (y:=⟨k+1,false,⟨0,0,⟨#[]⟩,none,0,0⟩,0⟩) (znb _ _)) F.o.1 F.o.2.1 (s.acts.list.length+1) F.o.2.2 ?_;intro V U w1 I E J;have B:=(E.block b (by simp;omega) (fun e=>q.o _ e rfl)).trans ((zne _ _ _ m).trans C.o.1.h);have j:w1.cell? ⟨b,14,none⟩=some (.slice a s.acts.list.length cap):=(by rw[zch B];rfl);have i:∀o,w1.frozen? ⟨b,o,none⟩=false:=(fun o=>zfr B o);have d:b<w1:=zlt B;have Q:=zh3 I E J;clear I E J B))
 all_goals
  have R:Below wr wr (wr.drew.alloc (.cells (enc (⟨k+1,false,⟨0,0,⟨#[]⟩,none,0,0⟩,0⟩:TC)).toArray 193)):=((znv wr.heap.size wr).drew).alloc (znc _) _;have S:=C.o.1.putAcs (v1:=.slice V (s.acts.list.length+1) U) s' Q.o.1 (c.o.2.app (Ptw.one (x:=⟨k+1,false,yag,0⟩) ⟨rfl,rfl,yaH _ _,rfl⟩)) (((zkb (S:=fun _=>False) R).mono (fun _ _ f=>f.elim)).trans Q.o.2.1 (fun _ _ e=>e)) (fun g hg=>(Q.o.2.2 g hg).imp id (fun h=>znf R.size h)) (by rw[D.o.2.1];unfold ycl;rw[D.o.2.2.1];rfl);obtain⟨K,H⟩:∃K,K=w1.setCell ⟨b,14,none⟩ (.slice V (s.acts.list.length+1) U):=⟨_,rfl⟩;rw[<-H]at S|-;have Y:=zhd S;have d1:K.cell? ⟨b,14+1,none⟩=some (.int .i64 (k+1)):=by
   have:=S.1.cell (k:=14+1) (u:=.int .i64 s'.acts.next) rfl;rw[this,D.o.2.1,<-D.o.2.2.1];rfl
  have bz:=zlt S.1.h;have fz:∀o,K.frozen? ⟨b,o,none⟩=false:=fun o=>S.1.frozen o;clear S H j i d c0 c1 O R;go_wp2;go_ret;exact⟨_,by rw[D.o.2.2.1];rfl,zhd ⟨Y.o.1,C.o.2.trans Y.o.2⟩⟩
theorem yqd {w5:World}{B:Nat}{k t t' a b:Int}{nm:ByteArray}{c c':VC}{T:TypeId}(h:w5.heap[B]? =some (.cells #[k,t,a,b,nm,c.kind,c.n,c.s,.slice c.la c.ln c.lc] T (0,0))):
  (((((w5.setCell ⟨B,1,none⟩ (.int .i64 t')).setCell ⟨B,5,none⟩ (.int .i64 c'.kind)).setCell ⟨B,6,none⟩ (.int .i64 c'.n)).setCell ⟨B,7,none⟩ (.string c'.s)).setCell ⟨B,8,none⟩ (.slice c'.la c'.ln c'.lc)).heap[B]? =some (.cells #[k,t',a,b,nm,c'.kind,c'.n,c'.s,.slice c'.la c'.ln c'.lc] T (0,0)):=by
 simp[World.setCell,zni,h]
theorem yl5 (w':World)(b:Nat)(v1 v2 v3 v4 v5:Value):
  Keeps (fun j=>j=b) w' (((((w'.setCell ⟨b,1,none⟩ v1).setCell ⟨b,5,none⟩ v2).setCell ⟨b,6,none⟩ v3).setCell ⟨b,7,none⟩ v4).setCell ⟨b,8,none⟩ v5):=by
 have E:Keeps (fun j=>j=b) w' w':=Keeps.refl _ _;have D:=Keeps.setCell (p:=⟨b,1,none⟩) E (.inl rfl) v1;have C:=Keeps.setCell (p:=⟨b,5,none⟩) D (.inl rfl) v2;have B:=Keeps.setCell (p:=⟨b,6,none⟩) C (.inl rfl) v3;have A:=Keeps.setCell (p:=⟨b,7,none⟩) B (.inl rfl) v4;exact Keeps.setCell (p:=⟨b,8,none⟩) A (.inl rfl) v5
theorem ycb
  {Z:Nat->Prop}(b:Nat)(v:MV)(p:Img)(s:MS)(W:World)(M:MX TT Z W b v p s)
  (k t a c:Int)(nm:ByteArray)(x:Val)(vk vn:Int)(vs:ByteArray)(la:Option Addr)(ln lc:Nat)(F:Nat->Prop)(C:CF F W ⟨vk,vn,vs,la,ln,lc⟩ x)(hz:szV x<=1073741824)(hl:s.made.length<=4294967296)(hZ:∀j,W.heap.size<=j->Z j)
  (s':MS)(hs':s.want ⟨k,t,a,c,nm,x⟩=s'):
  Calls Tryz.prog 179 #[.pointer (some ⟨b,0,none⟩),.agg #[k,t,a,c,nm,vk,vn,vs,.slice la ln lc]] W (MP Z W b v p (.tuple #[]) s'):=by
 obtain⟨ss,ic,ps,Aa,ts,Af,ls,ms⟩:=v;obtain⟨q,cap,rfl⟩:∃a cap,ms= .slice a s.made.length cap:=M.mds.slice;have hb:=zlt M.h;obtain⟨w0,R⟩:∃w0,w0=W.alloc (.cells #[k,t,a,c,nm,vk,vn,vs,.slice la ln lc] 52):=⟨_,rfl⟩;have B0:=zba R;have P:=zha R;have q0:=zca P 0 rfl;have q1:=zca P 1 rfl;have q5:=zca P 5 rfl;have q6:=zca P 6 rfl;have q7:=zca P 7 rfl;have q8:=zca P 8 rfl;have qf:∀o,w0.frozen? ⟨W,o,none⟩=false:=fun o=>zfr P o;have lr:W<w0.heap.size:=zlt P;have b1:b<w0:=by omega
 have M0:=M.ext B0;have Ae:w0.cell? ⟨b,11,none⟩=some (.int .i64 s.now):=M0.cell (k:=11) rfl;have Am:¬W.heap.size=b:=by omega
 have CL:=zhd (yax x vk vn vs la ln lc F w0.drew (C.keep (S:=fun _=>False) (zkb B0.drew) (fun _ _ f=>f)) hz);have J:=zh7 M B0 P hs' hl hZ hb;clear M B0 P hs' hl hZ hb C M0;go_in;go_wp2_with fail;rw[<-R];clear R;go_region_law ((go_simp;go_at_call 58;refine CL.o.mono ?_;rintro e w5 ⟨⟨N,L,K,G,D,E⟩,rfl,i⟩;have B5:Below w0 w0 w5:=znw ((znv w0.heap.size w0).drew) i.o.2;have H:=(B5.block W lr).trans J.o.2.2.1;have r1:w5.cell? ⟨W,1,none⟩=some (.int .i64 t):=(by rw[zch H];rfl);have r5:w5.cell? ⟨W,5,none⟩=some (.int .i64 vk):=(by rw[zch H];rfl);have r6:w5.cell? ⟨W,6,none⟩=some (.int .i64 vn):=(by rw[zch H];rfl);have r7:w5.cell? ⟨W,7,none⟩=some (.string vs):=(by rw[zch H];rfl);have r8:w5.cell? ⟨W,8,none⟩=some (.slice la ln lc):=(by rw[zch H];rfl);have rf:∀o,w5.frozen? ⟨W,o,none⟩=false:=(fun o=>zfr H o);have rl:=zlt H;have Al:=(B5.cell (p:=⟨b,11,none⟩) b1).trans Ae;have H5:=zh3 i.o.1 B5 H;clear i B5 H))
 all_goals
  obtain⟨w6,Q⟩:∃w6,w6=(((((w5.setCell ⟨W,1,none⟩ (.int .i64 s.now)).setCell ⟨W,5,none⟩ (.int .i64 N)).setCell ⟨W,6,none⟩ (.int .i64 L)).setCell ⟨W,7,none⟩ (.string K)).setCell ⟨W,8,none⟩ (.slice G D E)):=⟨_,rfl⟩;rw[<-Q];have B:w6.heap[W.heap.size]? =some (.cells #[k,s.now,a,c,nm,N,L,K,.slice G D E] 52 (0,0)):=by rw[Q];exact yqd (c':=⟨N,L,K,G,D,E⟩) (c:=⟨vk,vn,vs,la,ln,lc⟩) H5.o.2.2
  have K56:Keeps (fun j=>j=W) w5 w6:=by rw[Q];exact yl5 _ _ _ _ _ _ _
  have K6:Keeps (fun j=>W<=j) W w6:=((zkb (S:=fun _=>False) (J.o.2.1.trans (H5.o.2.1.mono J.o.2.1.size))).mono (fun _ _ f=>f.elim)).trans K56 (fun j _ e=>Nat.le_of_eq e.symm);have M6:=J.o.1.cut.late (fun j h=>J.o.1.lt h) K6;have KM6:=(MK.refl b ⟨ss,ic,ps,Aa,ts,Af,ls,.slice q s.made.length cap⟩ W).late K6;have C6:CF (MZ Z ⟨ss,ic,ps,Aa,ts,Af,ls,.slice q s.made.length cap⟩ b) w6 ⟨N,L,K,G,D,E⟩ (yab x):=((H5.o.1.keep K56 (fun g O e=>by have O:w0<=g:=O;have e:g=W:=e;omega))).mono (fun g O _=>by
   have O:w0<=g:=O;exact⟨fun e=>by have:=J.o.1.lt e;omega,J.o.2.2.2.2.2.1 g (by omega)⟩)
  obtain⟨z,hR,hP⟩:=M6.mds.cells;have Aj:z.length=s.made.length:=hP.1;have l:=zh6 M6 KM6 C6 B hR hP;have n:=zhd (show(z.length+[(⟨k,s.now,a,c,nm,⟨N,L,K,G,D,E⟩⟩:CC)].length)*104<=140737488355328/\z.length+[(⟨k,s.now,a,c,nm,⟨N,L,K,G,D,E⟩⟩:CC)].length<=maxLen/\z.length+[(⟨k,s.now,a,c,nm,⟨N,L,K,G,D,E⟩⟩:CC)].length=s.made.length+1 from by have:=J.o.2.2.2.2.1;unfold maxLen;simp;omega);have NB:=zhd (show∀g,(Value.slice q s.made.length cap).ownBlock=some g->g≠b/\g≠W.heap.size from fun g O=>⟨fun e=>absurd (J.o.1.sep 6 0 g O (by rw[e];rfl)) (by decide),fun e=>by have:=J.o.1.mds.lt O;omega⟩);have lz:W<w6.heap.size:=zlt B;have b6:b<w6:=by have:=J.o.2.2.2.2.2.2;omega
  have q0:=zca B 0 rfl;have q1:=zca B 1 rfl;have q2:=zca B 2 rfl;have q3:=zca B 3 rfl;have q4:=zca B 4 rfl;have q5:=zca B 5 rfl;have q6:=zca B 6 rfl;have q7:=zca B 7 rfl;have q8:=zca B 8 rfl;have Ak:w6.cell? ⟨b,21,none⟩=some (.slice q s.made.length cap):=M6.cell (k:=21) rfl;have df:∀o,w6.frozen? ⟨b,o,none⟩=false:=fun o=>M6.frozen o;clear M6 KM6 C6 B hR hP Aj K56 K6 Q r1 r5 r6 r7 r8 rf Al Ae rl lr b1 qf;go_wp2_with fail
  go_region_law ((refine yay (α:=CC) (o:=⟨some 20,_,_,_,_,_⟩) ymc (by rfl) (.tmp 17) (.tmp 19) (by rfl) (v:=.slice q s.made.length cap) (u:=.slice (some ⟨w6,0,none⟩) 1 1) (by rfl) (by rfl) (xs:=z) (ys:=[⟨k,s.now,a,c,nm,⟨N,L,K,G,D,E⟩⟩]) ((l.o.2.2.2.2.1.drew).alloc _) (RowAt.lit (α:=CC) (y:=⟨k,s.now,a,c,nm,⟨N,L,K,G,D,E⟩⟩) (znb _ _)) n.o.1 n.o.2.1 (s.made.length+1) n.o.2.2 ?_;intro a1 cp w7 Ac T Ad;have U:=(T.block b (by simp;omega) (fun e=>(NB.o _ e).1 rfl)).trans ((zne _ _ _ b6).trans l.o.1.h);have Ab:=(T.block W (by simp;omega) (fun e=>(NB.o _ e).2 rfl)).trans ((zne _ _ _ lz).trans l.o.2.2.2.1);have y0:w7.cell? ⟨b,21,none⟩=some (.slice q s.made.length cap):=(by rw[zch U];rfl);have y1:∀o,w7.frozen? ⟨b,o,none⟩=false:=(fun o=>zfr U o);have y2:b<w7:=zlt U;have FF:=zh4 Ac T Ad Ab;clear Ac T Ad U Ab))
  all_goals
   have B1:Below w6 w6 (w6.drew.alloc (.cells (enc (⟨k,s.now,a,c,nm,⟨N,L,K,G,D,E⟩⟩:CC)).toArray 52)):=((znv w6.heap.size w6).drew).alloc (znc _) _;have S:=l.o.1.putMds (v1:=.slice a1 (s.made.length+1) cp) {s with made:=s.made++[⟨k,s.now,a,c,nm,yab x⟩]} FF.o.1 (l.o.2.2.2.2.2.app (Ptw.one (x:=⟨k,s.now,a,c,nm,yab x⟩) ⟨rfl,rfl,rfl,rfl,rfl,l.o.2.2.1⟩)) (((zkb (S:=fun _=>False) B1).mono (fun _ _ f=>f.elim)).trans FF.o.2.1 (fun _ _ e=>e)) (fun g O=>(FF.o.2.2.1 g O).imp id (fun h=>znf B1.size h)) rfl;obtain⟨r,d⟩:∃r,r=w7.setCell ⟨b,21,none⟩ (.slice a1 (s.made.length+1) cp):=⟨_,rfl⟩;rw[<-d]at S|-;have Y:r.heap[W.heap.size]? =some (.cells #[k,s.now,a,c,nm,N,L,K,.slice G D E] 52 (0,0)):=by
    rw[d,znn _ _ _ _ (fun e=>by have e:W.heap.size=b:=e;have:=J.o.2.2.2.2.2.2;omega)];exact FF.o.2.2.2
   have z0:=zca Y 0 rfl;have zl:=zlt Y;have An:r.cell? ⟨b,19,none⟩=some (.bool s.over):=S.1.cell (k:=19) rfl;have fz:∀o,r.frozen? ⟨b,o,none⟩=false:=fun o=>S.1.frozen o;have bz:=zlt S.1.h;have m:=zh2 S.1 (l.o.2.1.trans S.2);have I:=J.o.2.2.2.1;clear S d Y y0 y1 y2 Ak df B1 q0 q1 q2 q3 q4 q5 q6 q7 q8;by_cases k4:k=4
   .subst k4
    have A:=zhd I;clear I;have V:s'=({s with made:=s.made++[⟨4,s.now,a,c,nm,yab x⟩],over:=true}:MS):=by rw[<-A.o];unfold MS.want;simp
    have A:=zhd V;clear V;go_wp2_with fail
    go_end0
    have X:=m.o.1.scalar 19 (.bool true) s' (by rw[A.o];rfl) (by rw[A.o]) (by rw[A.o]) (by rw[A.o]) (by rw[A.o]) (by rw[A.o]) (by rw[A.o]) (by rw[A.o]);exact⟨_,rfl,zhd ⟨X.1,m.o.2.trans X.2⟩⟩
   .have Ai:(k==4)=false:=by rw[zna];exact k4
    by_cases k5:k=5
    .subst k5
     have A:=zhd I;clear I;have V:s'=({s with made:=s.made++[⟨5,s.now,a,c,nm,yab x⟩],over:=true}:MS):=by rw[<-A.o];unfold MS.want;simp
     have A:=zhd V;clear V;go_wp2_with fail
     go_end0
     have X:=m.o.1.scalar 19 (.bool true) s' (by rw[A.o];rfl) (by rw[A.o]) (by rw[A.o]) (by rw[A.o]) (by rw[A.o]) (by rw[A.o]) (by rw[A.o]) (by rw[A.o]);exact⟨_,rfl,zhd ⟨X.1,m.o.2.trans X.2⟩⟩
    .have Ah:(k==5)=false:=by rw[zna];exact k5
     by_cases k6:k=6
     .subst k6
      have A:=zhd I;clear I;have V:s'=({s with made:=s.made++[⟨6,s.now,a,c,nm,yab x⟩],over:=true}:MS):=by rw[<-A.o];unfold MS.want;simp
      have A:=zhd V;clear V;go_wp2_with fail
      go_end0
      have X:=m.o.1.scalar 19 (.bool true) s' (by rw[A.o];rfl) (by rw[A.o]) (by rw[A.o]) (by rw[A.o]) (by rw[A.o]) (by rw[A.o]) (by rw[A.o]) (by rw[A.o]);exact⟨_,rfl,zhd ⟨X.1,m.o.2.trans X.2⟩⟩
     .have Ag:(k==6)=false:=by rw[zna];exact k6
      have A:=zhd (show({s with made:=s.made++[⟨k,s.now,a,c,nm,yab x⟩]}:MS)=s' from by rw[<-I];unfold MS.want;simp only[Ai,Ah,Ag,Bool.or_false]);clear I;go_wp2_with fail
      go_end0
      exact⟨_,rfl,zhd (by rw[<-A.o];exact m.o)⟩
theorem yd2:szV yag<=1073741824:=by rw[yds];decide
theorem yau
  {Z:Nat->Prop}(b:Nat)(v:MV)(p:Img)(s:MS)(W:World)(M:MX TT Z W b v p s)
  (why:ByteArray)(hy:why.size<=64)(hl:s.made.length<=4294967296)(hZ:∀j,W.heap.size<=j->Z j)(s':MS)(hs':s.fall why=s'):
  Calls Tryz.prog 177 #[.pointer (some ⟨b,0,none⟩),why] W (MP Z W b v p (.bool true) s'):=by
 obtain⟨O,S,P,G,N,J,R,Q⟩:=v;have I:=zlt M.h;have c1:W.cell? ⟨b,20,none⟩=some (.string s.trap):=M.cell (k:=20) rfl;have H:∀o,W.frozen? ⟨b,o,none⟩=false:=fun o=>M.frozen o;have C:=M.scalar 20 (.string why) {s with trap:=why} rfl rfl rfl rfl rfl rfl rfl rfl;have B:=zh5 C.1 C.2 hs' hl hZ;clear C M hs' hl hZ;go_in;go_wp2_with fail;obtain⟨wr,A⟩:∃wr,wr=W.setCell ⟨b,20,none⟩ (.string why):=⟨_,rfl⟩;have D:=zh2 (A▸B.o.1) (A▸B.o.2.1);rw[<-A];clear A c1 H I;have K:=zhd (ycb b _ p _ wr D.o.1 5 0 0 0 (⟨#[116,114,97,112,32]⟩++why) yag 0 0 ⟨#[]⟩ none 0 0 (fun _=>True) (yaH _ _) yd2 B.o.2.2.2.1 (yad B.o.2.2.2.2 D.o.2.keeps.size) s' (by have h:=B.o.2.2.1;unfold MS.fall at h;exact h));refine K.o.mono ?_;rintro e L ⟨F,rfl,E⟩;go_wp2;go_ret;exact⟨F,rfl,zhd ⟨E.o.1,D.o.2.trans E.o.2⟩⟩
theorem yg9
  {Z:Nat->Prop}(b:Nat)(v:MV)(p:Img)(s:MS)(W:World)(M:MX TT Z W b v p s)
  (x:Val)(ck cn:Int)(cs:ByteArray)(la:Option Addr)(ln lc:Nat)(C:CF (MZ Z v b) W ⟨ck,cn,cs,la,ln,lc⟩ x)(hw:x.wf)(hk:s.stk.length<=4294967296)(hl:s.made.length<=4294967296)(hZ:∀j,W.heap.size<=j->Z j)(s':MS)(hs':s.put x=s'):
  Calls Tryz.prog 181 #[.pointer (some ⟨b,0,none⟩),.agg #[ck,cn,cs,.slice la ln lc]] W (MP Z W b v p (.bool true) s'):=by
 obtain⟨H,B⟩:∃H,H=W.alloc (.cells #[ck,cn,cs,.slice la ln lc] 38):=⟨_,rfl⟩;have P:=zba B;have I:=zha B;obtain⟨U,T,R,Q,_⟩:=zq4 I;have N:W.heap.size<H.heap.size:=zlt I;obtain⟨r,O⟩:∃r,checkL x=r:=⟨_,rfl⟩;have g:=zhd (yaE x ck cn cs la ln lc (MZ Z v b) H (C.keep (S:=fun _=>False) (zkb P) (fun _ _ f=>f)) hw r O);unfold MS.put at hs';rw[O]at hs';have A:=zh8 M P C hs' hl hZ hk I;clear M P C hs' hl hZ hk O hw I;go_in;go_wp2_with fail;rw[<-B];clear B;refine g.o.mono ?_;rintro e K ⟨rfl,E⟩;have J:=A.o.2.1.trans (E.mono A.o.2.1.size);have F:=(E.block W N).trans A.o.2.2.2.2.2.2.2;have V:=A.o.1.ext J;have X:=A.o.2.2.1.keep (S:=fun _=>False) (zkb J) (fun _ _ f=>f);have D:=zh4 J F V X;clear E U T R Q N J F V X;cases hz:(r !=0)with
 |true=>
  have hs':=A.o.2.2.2.1;rw[if_pos (by simpa using hz)]at hs';have d:=zhd (yau b v p s K D.o.2.2.1 ⟨#[108,111,110,103]⟩ (by decide) A.o.2.2.2.2.1 (yad A.o.2.2.2.2.2.1 D.o.1.size) s' hs');clear hs';go_wp2_with fail;refine d.o.mono ?_;rintro e Y ⟨L,rfl,G⟩;go_wp2;go_ret;exact⟨L,rfl,zhd ⟨G.o.1,(MK.ext D.o.1).trans G.o.2⟩⟩
 |false=>
  have hs':=A.o.2.2.2.1;rw[if_neg (by simpa using hz)]at hs';have c:=zhd (yaj b v p s K.drew (D.o.2.2.1.ext (znv _ _).drew) x ck cn cs la ln lc (D.o.2.2.2.keep (S:=fun _=>False) (zkb ((znv _ _).drew)) (fun _ _ f=>f)) A.o.2.2.2.2.2.2.1);obtain⟨U,T,R,Q,_⟩:=zq4 D.o.2.1;have N:W<K.heap.size:=zlt D.o.2.1;have a:=zhd hs';clear hs';go_wp2_with fail;go_region_law ((go_simp;go_at_call 119;refine c.o.mono ?_;rintro e Y ⟨L,rfl,G⟩))
  all_goals
   go_wp2;go_ret;exact⟨L,rfl,zhd ⟨by rw[<-a.o];exact G.o.1,(MK.ext (D.o.1.drew)).trans G.o.2⟩⟩
end Go.Proofs.YtpagmlndgblhhaaGreatDoor
