/- Parts of the proof: what the functions and the plain laws give that later parts lean on. Conditions: none beyond those that each theorem names. -/
import Derived.Shelf.Strconv.ErrVarAll
import Derived.Lib.SmallJoins
import Derived.Test.YtakljipkaoahnaaGreatDoorA4
set_option maxRecDepth 100000
set_option maxHeartbeats 8000000
namespace Go.Va
open Go.Own Go.RowKit
inductive PR where
 |ok (x:Val) (k:Nat)
 |deep
 |bad
def digC (c:UInt8):Bool:=decide (48≤c.toNat∧c.toNat≤57)
def digN:List UInt8→Nat
 |[]=>0
 |c::r=>bif digC c then digN r+1 else 0
theorem digN_le:∀l:List UInt8,digN l≤l.length
 |[]=>Nat.le_refl _
 |c::r=>by
  have:=digN_le r
  rw[digN]
  cases digC c<;>simp<;>omega
def numAt (s:List UInt8)(k:Nat):Nat:=if eatL s k 45 then k+1 else k
def numEnd (s:List UInt8)(k:Nat):Nat:=numAt s k+digN (s.drop (numAt s k))
theorem eatL_lt {s:List UInt8}{k:Nat}{c:UInt8}(h:eatL s k c=true):k<s.length:=by
 unfold eatL at h
 cases hx:s[k]? with
 |none=>rw[hx]at h;cases h
 |some x=>exact(zge hx).1
theorem numAt_le {s:List UInt8}{k:Nat}(h:k≤s.length):k≤numAt s k∧numAt s k≤s.length:=by
 unfold numAt
 split
 ·rename_i he
  have:=eatL_lt he
  omega
 ·omega
theorem numEnd_le {s:List UInt8}{k:Nat}(h:k≤s.length):k≤numEnd s k∧numEnd s k≤s.length:=by
 have h1:=numAt_le h
 have h2:=digN_le (s.drop (numAt s k))
 simp at h2
 unfold numEnd
 omega
def numT (s:List UInt8)(k:Nat):List UInt8:=(s.drop k).take (numEnd s k - k)
def numR (s:List UInt8)(k:Nat):PR:=
 match Lib.parseIntB 64 (numT s k)with
 | .ok v=>if Lib.itoa v=numT s k then .ok (.mk 1 v ⟨#[]⟩ []) (numEnd s k)else .bad
 |_=>.bad
end Go.Va
namespace Go.Proofs.YtakljipkaoahnaaGreatDoor
open Go.RowKit Go.Own Go.Own.MapTy Go.Va Go.Sort
open Go.Own.Cells (sz enc)
def NPost (w:World)(b:Nat)(s:ByteArray)(k:Nat)(deep:Bool)(e:Ending)(w':World):Prop:=
 TX w' b s (numEnd s.data.toList k) deep∧Keeps (fun j=>j=b) w w'∧match numR s.data.toList k with
  | .ok x k2=>(e= .returned (.tuple #[.int .i64 x.num,.bool true])∧x= .mk 1 x.num ⟨#[]⟩ []∧k2=numEnd s.data.toList k)
  |_=>∃n:Int,e= .returned (.tuple #[.int .i64 n,.bool false])
theorem dropAt {s:ByteArray}{k:Nat}(h:k<s.size):s.data.toList.drop k=s[k]::s.data.toList.drop (k+1):=by
 have h':k<s.data.toList.length:=by simpa using h
 rw[List.drop_eq_getElem_cons h']
 rfl
def eat2 (b:Nat)(s:ByteArray)(k:Nat)(deep:Bool)(c:UInt8)(w:World)(e:Ending)(w':World):Prop:=
 e= .returned (.bool (eatL s.data.toList k c))∧Hid (TX w' b s (bif eatL s.data.toList k c then k+1 else k) deep∧Keeps (fun j=>j=b) w w')
theorem eat_any (b:Nat)(s:ByteArray)(k:Nat)(deep:Bool)(c:UInt8)(w:World)(H:TX w b s k deep)(hs:s.size≤4294967280):
  Calls Tryz.prog 123 #[.pointer (some ⟨b,0,none⟩),.int .u8 c.toNat] w (eat2 b s k deep c w):=by
 cases he:eatL s.data.toList k c with
 |false=>
  refine(eat_no b s k deep c w H he).mono ?_
  rintro e w' ⟨rfl,rfl⟩
  exact⟨by rw[he],zhd ⟨by rw[he];exact H.drew,(Keeps.refl _ _).drew⟩⟩
 |true=>
  have hk:k<s.size:=by have:=eatL_lt he;simpa using this
  refine(eat_yes b s k deep c w H hs hk he).mono ?_
  rintro e w' ⟨rfl,rfl⟩
  exact⟨by rw[he],zhd ⟨by rw[he];exact(H.move (k+1)).drew,(Keeps.setCell (S:=fun j=>j=b) (p:=⟨b,1,none⟩) (Keeps.refl _ _) (.inl rfl) _).drew⟩⟩
def IPost (w:World)(s:ByteArray)(e:Ending)(w':World):Prop:=
 Below w.heap.size w w'∧match Lib.parseIntB 64 s.data.toList with
  | .ok v=>e= .returned (.tuple #[.int .i64 v,.nilIface])
  |_=>∃(n:Int) (t:TypeId) (p:Value),e= .returned (.tuple #[.int .i64 n,.iface t p])
theorem parseInt_any {N:Nat}(s:ByteArray)(w:World)(hs:s.size≤4294967280)(G:Gl Tryz.prog N w):
  Calls Tryz.prog 156 #[.string s,.int .i64 10,.int .i64 64] w (IPost w s):=by
 cases hp:Lib.parseIntB 64 s.data.toList with
 |ok v=>
  refine(Any.strconv_ParseInt_10_at64_ok Tryz.laysC174 s (by omega) v hp w).mono ?_
  rintro e w' ⟨rfl,hw⟩
  refine⟨?_,by rw[hp]⟩
  rcases hw with rfl|⟨t,rfl⟩
  ·exact Below.refl _ _
  ·exact Joins.below_bytesWorld _ _ _ _ (Nat.le_refl _)
 |range=>
  obtain⟨tp,p,hv⟩:=G.er
  refine(Any.strconv_ParseInt_10_at64_range Tryz.laysC174 s (by omega) hp (.iface tp p) w (by have h0:=World.var?_cell Tryz.laysC174.m16 hv 0;simpa using h0) (Or.inr ⟨tp,p,rfl⟩)).mono ?_
  rintro e w' ⟨n,rfl,_,_,hB⟩
  exact⟨hB,by rw[hp];exact⟨_,_,_,rfl⟩⟩
 |_=>
  obtain⟨tp,p,hv⟩:=G.es
  refine(Any.strconv_ParseInt_10_at64_syntax Tryz.laysC174 s (by omega) hp (.iface tp p) w (by have h0:=World.var?_cell Tryz.laysC174.m15 hv 0;simpa using h0) (Or.inr ⟨tp,p,rfl⟩)).mono ?_
  rintro e w' ⟨n,rfl,_,_,hB⟩
  exact⟨hB,by rw[hp];exact⟨_,_,_,rfl⟩⟩
theorem below_grow (w:World)(k:Nat)(os:Array Obj):Below w.heap.size w (grow (w.drewN k) os):=
 ⟨rfl,rfl,rfl,by simp[grow,World.drewN],fun j hj=>by simp[grow,World.drewN,Array.getElem?_append_left hj]⟩
theorem formatInt_any {N:Nat}(n:Int)(h0: -9223372036854775808≤n)(h1:n≤9223372036854775807)(w:World)(G:Gl Tryz.prog N w):
  Calls Tryz.prog 95 #[.int .i64 n,.int .i64 10] w fun e w'=>e= .returned (.string ⟨(Lib.itoa n).toArray⟩)∧Below w.heap.size w w':=by
 refine(Any.strconv_FormatInt_10 Tryz.laysM173 n h0 h1 w G.tab).mono ?_
 rintro e w' ⟨rfl,k,os,rfl⟩
 exact⟨rfl,below_grow w k os⟩
def NRel (w:World)(b:Nat)(s:ByteArray)(j0:Nat)(deep:Bool)(gk:Nat)(wr:World):Prop:=
 ∃k,gk=s.size - k∧k≤s.size∧TX wr b s k deep∧Keeps (fun j=>j=b) w wr∧k+digN (s.data.toList.drop k)=numEnd s.data.toList j0
theorem parse_ok_bound {l:List UInt8}{v:Int}(h:Lib.parseIntB 64 l= .ok v): -9223372036854775808≤v∧v≤9223372036854775807:=by
 unfold Lib.parseIntB at h
 cases l with
 |nil=>cases h
 |cons c r=>
  dsimp only at h
  split at h
  ·cases h
  ·cases h
  ·rename_i u hu
   split at h
   ·cases h
   ·rename_i h1
    split at h
    ·cases h
    ·rename_i h2
     cases h
     by_cases hn:c.toNat=45
     ·simp[hn]at h2⊢
      omega
     ·simp[hn]at h1⊢
      omega
theorem number_any {N:Nat}(b:Nat)(s:ByteArray)(j0:Nat)(deep:Bool)(w:World)(H:TX w b s j0 deep)(hs:s.size≤4294967280)(ha:j0≤s.size)(G:Gl Tryz.prog N w)(hN:N≤b):
  Calls Tryz.prog 125 #[.pointer (some ⟨b,0,none⟩)] w (NPost w b s j0 deep):=by
 have b0:b<w.heap.size:=H.lt
 have c0:=H.c0
 have c1:=H.c1
 have HH:=zh2 H G
 clear H G
 have EA:=zhd (show Calls Tryz.prog 123 #[.pointer (some ⟨b,0,none⟩),.int .u8 45] w _ from eat_any b s j0 deep 45 w HH.out.1 hs)
 go_enter Tryz.func125,Tryz.ntmps125
 go_wp2_with fail
 refine EA.out.mono ?_
 rintro e w1 ⟨rfl,H1⟩
 clear EA c0 c1
 have hle:=zhd (numAt_le (s:=s.data.toList) (k:=j0) (by simpa using ha))
 have H1:=zhd (show TX w1 b s (numAt s.data.toList j0) deep∧Keeps (fun j=>j=b) w w1 from⟨by
  have h:=H1.out.1
  unfold numAt
  cases he:eatL s.data.toList j0 45<;>simpa[he]using h,H1.out.2⟩)
 generalize hb1:eatL s.data.toList j0 45=be
 go_wp2_with fail
 go_loopg [] (s.size - numAt s.data.toList j0) (fun gk wr=>NRel w b s j0 deep gk wr)
 case atStart=>
  refine⟨numAt s.data.toList j0,rfl,?_,H1.out.1,H1.out.2,rfl⟩
  have:=hle.out.2
  simpa using this
 case round=>
  obtain⟨k,hgk,hk,hT,hK,hd⟩:=hrel
  have b1:b<wr.heap.size:=hT.lt
  have c0:=hT.c0
  have c1:=hT.c1
  have f0:=hT.fr
  have HX:=zh4 hT hK hgk hd
  clear hT hK hgk hd
  by_cases hgo:k<s.size∧digC (s.data.toList.getD k 0)=true
  ·obtain⟨hkn,hdc⟩:=hgo
   have e0:(k:Int)<s.size:=by omega
   have hg:s.data.toList.getD k 0=s[k]:=by simp[List.getD,hkn];rfl
   rw[hg]at hdc
   have hdc2:=zhd hdc
   unfold digC at hdc
   rw[decide_eq_true_eq]at hdc
   have e1:(48:Int)≤s[k].toNat:=by omega
   have e2:(s[k].toNat:Int)≤57:=by omega
   clear hdc hg
   have hw:IntKind.i64.wrap ((k:Int)+1)=(k:Int)+1:=IntWalk.i64_in _ (by omega)
   go_wp2_with fail
   refine wp_region_ext (by kernel_rfl) (by kernel_rfl) ?_
   repeat(go_big_quiet_step (fail))
   refine wpQuiet_nil ?_
   intro w7 hB7
   have T7:=HX.out.1.keep (S:=fun _=>False) (zkb hB7) (fun f=>f)
   have K7:=HX.out.2.1.trans (T:=fun _=>False) (zkb hB7) (fun _ _ f=>f.elim)
   have T8:TX (w7.setCell ⟨b,1,none⟩ (.int .i64 ((k:Int)+1))) b s (k+1) deep:=T7.move (k+1)
   have K8:=Keeps.setCell (p:=⟨b,1,none⟩) K7 (.inl rfl) (.int .i64 ((k:Int)+1))
   have H8:=zh2 T8 K8
   clear c0 c1 f0
   have c0:=T7.c0
   have c1:=T7.c1
   have f0:=T7.fr
   have b7:=T7.lt
   clear T7 K7 T8 K8 hB7
   go_wp2_with fail
   go_roundg (s.size - (k+1))
   case measure=>have:=HX.out.2.2.1;omega
   case rel=>
    refine⟨k+1,rfl,hkn,H8.out.1,H8.out.2,?_⟩
    have h:=HX.out.2.2.2
    rw[dropAt hkn,digN,hdc2.out]at h
    simp only[cond_true]at h
    omega
  ·have hend:=zhd (show k=numEnd s.data.toList j0 from by
    have h:=HX.out.2.2.2
    by_cases hkn:k<s.size
    ·have hg:s.data.toList.getD k 0=s[k]:=by simp[List.getD,hkn];rfl
     rw[hg]at hgo
     rw[dropAt hkn,digN]at h
     cases hd:digC s[k]with
     |false=>rw[hd]at h;simpa using h
     |true=>exact absurd ⟨hkn,hd⟩ hgo
    ·rw[List.drop_eq_nil_of_le (by simp;omega)]at h
     simpa[digN]using h)
   have hj0:j0≤k:=by
    have:=(numEnd_le (s:=s.data.toList) (k:=j0) (by simpa using ha)).1
    have:=hend.out
    omega
   have HT:=zhd (show(s.extract j0 k).data.toList=numT s.data.toList j0 from by
    unfold numT
    rw[←hend.out]
    simp[ByteArray.data_extract])
   have hsz:(s.extract j0 k).size≤4294967280:=by simp;omega
   have PI:=zhd (fun W (HG:Gl Tryz.prog N W)=>parseInt_any (s.extract j0 k) W hsz HG)
   have cs:(¬(k:Int)<s.size∧decide (k<s.size)=false)∨(∃h:k<s.size,(k:Int)<s.size∧¬(48:Int)≤s[k].toNat∧decide ((48:Int)≤(s[k].toNat:Int))=false)∨
     (∃h:k<s.size,(k:Int)<s.size∧(48:Int)≤s[k].toNat∧¬(s[k].toNat:Int)≤57∧decide ((s[k].toNat:Int)≤57)=false):=by
    by_cases hkn:k<s.size
    ·have hg:s.data.toList.getD k 0=s[k]:=by simp[List.getD,hkn];rfl
     rw[hg]at hgo
     have hdc:¬(48≤s[k].toNat∧s[k].toNat≤57):=fun h=>hgo ⟨hkn,by unfold digC;rw[decide_eq_true_eq];exact h⟩
     by_cases h48:48≤s[k].toNat
     ·exact .inr (.inr ⟨hkn,by omega,by omega,by omega,by rw[decide_eq_false_iff_not];omega⟩)
     ·exact .inr (.inl ⟨hkn,by omega,by omega,by rw[decide_eq_false_iff_not];omega⟩)
    ·exact .inl ⟨by omega,by rw[decide_eq_false_iff_not];omega⟩
   clear hgo
   rcases cs with⟨e0,e3⟩|⟨hkn,e0,e1,e3⟩|⟨hkn,e0,e1,e2,e3⟩
   all_goals
    go_wp2_with fail
    refine wp_region_ext (by kernel_rfl) (by kernel_rfl) ?_
    repeat(go_big_quiet_step (fail))
    refine wpQuiet_nil ?_
    intro w7 hB7
    have T7:=HX.out.1.keep (S:=fun _=>False) (zkb hB7) (fun f=>f)
    have K7:=HX.out.2.1.trans (T:=fun _=>False) (zkb hB7) (fun _ _ f=>f.elim)
    have H7:=zh2 T7 K7
    clear c0 c1 f0
    have c0:=T7.c0
    have c1:=T7.c1
    have f0:=T7.fr
    have b7:=T7.lt
    clear T7 K7 hB7
    go_wp2_with fail
    refine wp_region_ext (by kernel_rfl) (by kernel_rfl) ?_
    repeat(go_big_quiet_step (fail))
    refine wpQuiet_nil ?_
    intro w8 hB8
    have T8:=H7.out.1.keep (S:=fun _=>False) (zkb hB8) (fun f=>f)
    have K8:=H7.out.2.trans (T:=fun _=>False) (zkb hB8) (fun _ _ f=>f.elim)
    have G8:=HH.out.2.keep K8 (fun j e=>by omega)
    have H8:=zh3 T8 K8 G8
    clear c0 c1 f0 T8 K8 G8 hB8
    go_wp2_with fail
    refine(PI.out _ H8.out.2.2).mono ?_
    rintro e w9 ⟨hB9,HI⟩
    have T9:=H8.out.1.keep (S:=fun _=>False) (zkb hB9) (fun f=>f)
    have K9:=H8.out.2.1.trans (T:=fun _=>False) (zkb hB9) (fun _ _ f=>f.elim)
    have G9:=H8.out.2.2.below hB9
    have H9:=zh3 T9 K9 G9
    clear T9 K9 G9 hB9
    cases hp:Lib.parseIntB 64 (s.extract j0 k).data.toList with
    |ok v=>
     rw[hp]at HI
     have bd:=parse_ok_bound hp
     rw[HT.out]at hp
     have HP:=zhd hp
     obtain rfl:=HI
     clear hp
     have FI:=zhd (formatInt_any v bd.1 bd.2 w9 H9.out.2.2)
     cases hq:(Lib.itoa v==(s.extract j0 k).data.toList)
     all_goals
      have e5:((⟨(Lib.itoa v).toArray⟩:ByteArray).toList==(s.extract j0 k).toList)=(Lib.itoa v==(s.extract j0 k).data.toList):=by rw[ByteArray.toList_eq,ByteArray.toList_eq]
      rw[hq]at e5
      rw[HT.out]at hq
      have HQ:=zhd hq
      clear hq
      go_wp2_with fail
      refine FI.out.mono ?_
      rintro e w10 ⟨rfl,hB10⟩
      have T10:=H9.out.1.keep (S:=fun _=>False) (zkb hB10) (fun f=>f)
      have K10:=H9.out.2.1.trans (T:=fun _=>False) (zkb hB10) (fun _ _ f=>f.elim)
      have H10:=zh2 T10 K10
      clear T10 K10 hB10
      go_wp2_with fail
      first
      |(refine bodyPost_ret (v:=.tuple #[.int .i64 v,.bool true]) (by simp only[results,Tryz.results125];go_simp;rw[ByteArray.toList_eq,HT.out];exact beq_iff_eq.1 HQ.out) rfl ⟨by rw[←hend.out];exact H10.out.1,H10.out.2,?_⟩
        have hn:numR s.data.toList j0= .ok (.mk 1 v ⟨#[]⟩ []) (numEnd s.data.toList j0):=by
         unfold numR
         rw[HP.out]
         exact if_pos (beq_iff_eq.1 HQ.out)
        rw[hn]
        exact⟨rfl,rfl,rfl⟩)
      |(refine bodyPost_ret (v:=.tuple #[.int .i64 v,.bool false]) (by simp only[results,Tryz.results125];go_simp;rw[ByteArray.toList_eq,HT.out];exact fun e=>by have:=HQ.out;rw[beq_iff_eq.2 e]at this;cases this) rfl ⟨by rw[←hend.out];exact H10.out.1,H10.out.2,?_⟩
        have hn:numR s.data.toList j0= .bad:=by
         unfold numR
         rw[HP.out]
         exact if_neg (fun e=>by have:=HQ.out;rw[beq_iff_eq.2 e]at this;cases this)
        rw[hn]
        exact⟨_,rfl⟩)
    |range=>
     rw[hp]at HI
     obtain⟨n,t,p,rfl⟩:=HI
     rw[HT.out]at hp
     have HP:=zhd hp
     clear hp
     go_wp2_with fail
     refine bodyPost_ret (v:=.tuple #[.int .i64 n,.bool false]) (by simp only[results,Tryz.results125];go_simp) rfl ⟨by rw[←hend.out];exact H9.out.1,H9.out.2.1,?_⟩
     have hn:numR s.data.toList j0= .bad:=by
      unfold numR
      rw[HP.out]
     rw[hn]
     exact⟨n,rfl⟩
    |_=>
     rw[hp]at HI
     obtain⟨n,t,p,rfl⟩:=HI
     rw[HT.out]at hp
     have HP:=zhd hp
     clear hp
     go_wp2_with fail
     refine bodyPost_ret (v:=.tuple #[.int .i64 n,.bool false]) (by simp only[results,Tryz.results125];go_simp) rfl ⟨by rw[←hend.out];exact H9.out.1,H9.out.2.1,?_⟩
     have hn:numR s.data.toList j0= .bad:=by
      unfold numR
      rw[HP.out]
     rw[hn]
     exact⟨n,rfl⟩
end Go.Proofs.YtakljipkaoahnaaGreatDoor
namespace Go.Va
open Go.Own Go.RowKit
def walkV:Val→Nat→Nat×Int→Nat×Int
 | .mk k _ s l,d,(p,e)=>
   bif e !=0 then(p,e)else
   bif decide (256≤p)then(p+1,2)else
   bif k==0||k==1 then(p+1,0)else
   bif k==2 then(p+1,bif decide (256<s.size)then 2 else 0)else
   bif k==3 then walkL l (d+1) (p+1,bif decide (8≤d)then 30 else bif decide (64<l.length)then 2 else 0)else(p+1,9)
where walkL:List Val→Nat→Nat×Int→Nat×Int
 |[],_,c=>c
 |x::r,d,c=>bif c.2 !=0 then c else walkL r d (walkV x d c)
theorem walkV_eq (x:Val)(d p:Nat)(e:Int):walkV x d (p,e)=bif e !=0 then(p,e)else
  bif decide (256≤p)then(p+1,2)else
  bif x.kind==0||x.kind==1 then(p+1,0)else
  bif x.kind==2 then(p+1,bif decide (256<x.txt.size)then 2 else 0)else
  bif x.kind==3 then walkV.walkL x.list (d+1) (p+1,bif decide (8≤d)then 30 else bif decide (64<x.list.length)then 2 else 0)else(p+1,9):=by
 cases x
 rw[walkV]
 rfl
theorem walkL_cons (x:Val)(r:List Val)(d:Nat)(c:Nat×Int):walkV.walkL (x::r) d c=bif c.2 !=0 then c else walkV.walkL r d (walkV x d c):=by
 rw[walkV.walkL]
theorem walkL_nil (d:Nat)(c:Nat×Int):walkV.walkL [] d c=c:=by rw[walkV.walkL]
theorem walkL_err (r:List Val)(d:Nat)(c:Nat×Int)(h:(c.2 !=0)=true):walkV.walkL r d c=c:=by
 cases r with
 |nil=>rw[walkL_nil]
 |cons x r=>rw[walkL_cons,h];rfl
mutual
theorem walkV_bd:∀(x:Val) (d:Nat) (c:Nat×Int),(c.2=0→c.1≤256)→((walkV x d c).2=0→(walkV x d c).1≤256)
 | .mk k n s l,d,(p,e),h=>by
   rw[walkV]
   cases h1:(e !=0)with
   |true=>simpa using h
   |false=>
    cases h2:decide (256≤p)with
    |true=>simp
    |false=>
     rw[decide_eq_false_iff_not]at h2
     cases h3:(k==0||k==1)with
     |true=>simp;omega
     |false=>
      cases h4:(k==2)with
      |true=>simp;omega
      |false=>
       cases h5:(k==3)with
       |true=>
        simp only[cond_false,cond_true]
        exact walkL_bd l (d+1) _ (fun _=>by simp;omega)
       |false=>simp
theorem walkL_bd:∀(l:List Val) (d:Nat) (c:Nat×Int),(c.2=0→c.1≤256)→((walkV.walkL l d c).2=0→(walkV.walkL l d c).1≤256)
 |[],d,c,h=>by rw[walkL_nil];exact h
 |x::r,d,c,h=>by
  rw[walkL_cons]
  cases h1:(c.2 !=0)with
  |true=>exact h
  |false=>exact walkL_bd r d _ (walkV_bd x d c h)
end
end Go.Va
namespace Go.Proofs.YtakljipkaoahnaaGreatDoor
open Go.RowKit Go.Own Go.Own.MapTy Go.Va Go.Sort
open Go.Own.Cells (sz enc)
def CX (w:World)(b:Nat)(c:Nat×Int):Prop:=w.heap[b]? =some (.cells #[.int .i64 c.1,.int .i64 c.2] 182 (0,0))
theorem CX.c0 {w:World}{b:Nat}{c:Nat×Int}(h:CX w b c):w.cell? ⟨b,0,none⟩=some (.int .i64 c.1):=by rw[zch h];rfl
theorem CX.c1 {w:World}{b:Nat}{c:Nat×Int}(h:CX w b c):w.cell? ⟨b,1,none⟩=some (.int .i64 c.2):=by rw[zch h];rfl
theorem CX.fr {w:World}{b:Nat}{c:Nat×Int}(h:CX w b c)(o:Nat):w.frozen? ⟨b,o,none⟩=false:=zfr h o
theorem CX.lt {w:World}{b:Nat}{c:Nat×Int}(h:CX w b c):b<w.heap.size:=zlt h
theorem CX.keep {w w':World}{b:Nat}{c:Nat×Int}{S:Nat→Prop}(h:CX w b c)(K:Keeps S w w')(hs:¬S b):CX w' b c:=(K.block b h.lt hs).trans h
theorem CX.set0 {w:World}{b p:Nat}{e:Int}(h:CX w b (p,e))(q:Nat):CX (w.setCell ⟨b,0,none⟩ (.int .i64 q)) b (q,e):=by
 unfold CX at h⊢
 simp[World.setCell,Array.getElem?_modify,h]
theorem CX.set1 {w:World}{b p:Nat}{e:Int}(h:CX w b (p,e))(f:Int):CX (w.setCell ⟨b,1,none⟩ (.int .i64 f)) b (p,f):=by
 unfold CX at h⊢
 simp[World.setCell,Array.getElem?_modify,h]
def WPost (w:World)(b:Nat)(r:Nat×Int)(e:Ending)(w':World):Prop:=e= .returned (.tuple #[])∧CX w' b r∧Keeps (fun j=>j=b) w w'
theorem walk_err (x:Val)
  (b d p:Nat)(e:Int)(ck cn:Int)(cs:ByteArray)(la:Option Addr)(ln lc:Nat)(F:Nat→Prop)(w:World)(H:CX w b (p,e))(C:CF F w ⟨ck,cn,cs,la,ln,lc⟩ x)(hF:¬F b)(hd:d≤8)(hp:e=0→p≤256)(r:Nat×Int)(hr:walkV x d (p,e)=r)
  (he:(e !=0)=true):
  Calls Tryz.prog 107 #[.pointer (some ⟨b,0,none⟩),.agg #[.int .i64 ck,.int .i64 cn,.string cs,.slice la ln lc],.int .i64 d] w (WPost w b r)
  :=by
 have _h:=zai hF (zai hd hp)
 have b0:=H.lt
 have c0:=H.c0
 have c1:=H.c1
 have f0:=H.fr
 rw[walkV_eq]at hr
 have hck:ck=x.kind:=C.kind
 have hcs:cs=x.txt:=C.s
 have HH:=zh2 H C
 clear H C
 dsimp only at c0 c1
 go_enter Tryz.func107,Tryz.ntmps107
 rw[he]at hr
 have HR:=zhd hr
 clear hr hck hcs
 go_wp2_with fail
 have hr':=HR.out
 simp only[cond_true]at hr'
 subst hr'
 exact bodyPost_ret (v:=.tuple #[]) (by simp only[results,Tryz.results107];go_simp) rfl ⟨rfl,HH.out.1.keep (S:=fun _=>False) ((Keeps.refl _ _).alloc _) (fun f=>f),(Keeps.refl _ _).alloc _⟩
theorem walk_one (x:Val)
  (b d p:Nat)(e:Int)(ck cn:Int)(cs:ByteArray)(la:Option Addr)(ln lc:Nat)(F:Nat→Prop)(w:World)(H:CX w b (p,e))(C:CF F w ⟨ck,cn,cs,la,ln,lc⟩ x)(hF:¬F b)(hd:d≤8)(hp:e=0→p≤256)(r:Nat×Int)(hr:walkV x d (p,e)=r)
  (he:e=0)(h3:(x.kind==3)=false∨256≤p):
  Calls Tryz.prog 107 #[.pointer (some ⟨b,0,none⟩),.agg #[.int .i64 ck,.int .i64 cn,.string cs,.slice la ln lc],.int .i64 d] w (WPost w b r)
  :=by
 have _h:=zai hF hd
 subst he
 have b0:=H.lt
 have c0:=H.c0
 have c1:=H.c1
 have f0:=H.fr
 rw[walkV_eq]at hr
 have hck:ck=x.kind:=C.kind
 have hcs:cs=x.txt:=C.s
 have HH:=zh2 H C
 clear H C
 dsimp only at c0 c1
 go_enter Tryz.func107,Tryz.ntmps107
 simp only[bne_self_eq_false,cond_false]at hr
 have hp:=hp rfl
 have T0:=HH.out.1.set0 (p+1)
 have K0:Keeps (fun j=>j=b) w (w.setCell ⟨b,0,none⟩ (.int .i64 ((p:Int)+1))):=Keeps.setCell (S:=fun j=>j=b) (p:=⟨b,0,none⟩) (Keeps.refl _ w) (.inl rfl) _
 have KA:∀W,Keeps (fun _=>False) W (W.alloc (.cells #[.int .i64 ck,.int .i64 cn,.string cs,.slice la ln lc] 39)):=fun W=>(Keeps.refl _ _).alloc _
 have HT:=zh3 T0 K0 KA
 clear T0 K0 KA
 cases h2:decide (256≤p)with
 |true=>
  rw[h2]at hr
  rw[decide_eq_true_eq]at h2
  have HR:=zhd hr
  have e2:(256:Int)<(p:Int)+1:=by omega
  clear hr hck hcs
  go_wp2_with fail
  have hr':=HR.out
  simp only[cond_true]at hr'
  subst hr'
  exact bodyPost_ret (v:=.tuple #[]) (by simp only[results,Tryz.results107];go_simp) rfl ⟨rfl,(HT.out.1.set1 2).keep (HT.out.2.2 _) (fun f=>f),((HT.out.2.1.setCell (p:=⟨b,1,none⟩) (.inl rfl) (.int .i64 2)).alloc _)⟩
 |false=>
  rw[h2]at hr
  simp only[cond_false]at hr
  rw[decide_eq_false_iff_not]at h2
  have e2:¬(256:Int)<(p:Int)+1:=by omega
  have h3:=h3.resolve_right h2
  cases h4:(x.kind==0||x.kind==1)with
  |true=>
   rw[h4]at hr
   have HR:=zhd hr
   have h4:ck=0∨ck=1:=by rw[hck];simpa using h4
   clear hr hck hcs h3
   rcases h4 with rfl|rfl
   all_goals
    go_wp2_with fail
    have hr':=HR.out
    simp only[cond_true]at hr'
    subst hr'
    go_end0
    exact⟨rfl,HT.out.1.keep (HT.out.2.2 _) (fun f=>f),HT.out.2.1.alloc _⟩
  |false=>
   rw[h4]at hr
   simp only[cond_false]at hr
   rw[Bool.or_eq_false_iff,←hck]at h4
   obtain⟨k0,k1⟩:=h4
   cases k2:(x.kind==2)with
   |true=>
    rw[k2]at hr
    simp only[cond_true,←hcs]at hr
    obtain rfl:ck=2:=by rw[hck];simpa using k2
    cases hs:decide (256<cs.size)with
    |true=>
     rw[hs]at hr
     have HR:=zhd hr
     rw[decide_eq_true_eq]at hs
     have e5:(256:Int)<cs.size:=by omega
     clear hr hck hcs h3 k0 k1 k2
     go_wp2_with fail
     have hr':=HR.out
     simp only[cond_true]at hr'
     subst hr'
     go_end0
     exact⟨rfl,(HT.out.1.set1 2).keep (HT.out.2.2 _) (fun f=>f),((HT.out.2.1.setCell (p:=⟨b,1,none⟩) (.inl rfl) (.int .i64 2)).alloc _)⟩
    |false=>
     rw[hs]at hr
     have HR:=zhd hr
     rw[decide_eq_false_iff_not]at hs
     have e5:¬(256:Int)<cs.size:=by omega
     clear hr hck hcs h3 k0 k1 k2
     go_wp2_with fail
     have hr':=HR.out
     simp only[cond_false]at hr'
     subst hr'
     go_end0
     exact⟨rfl,HT.out.1.keep (HT.out.2.2 _) (fun f=>f),HT.out.2.1.alloc _⟩
   |false=>
    rw[k2,h3]at hr
    have HR:=zhd hr
    rw[←hck]at k2 h3
    clear hr hck hcs
    go_wp2_with fail
    have hr':=HR.out
    simp only[cond_false]at hr'
    subst hr'
    go_end0
    exact⟨rfl,(HT.out.1.set1 9).keep (HT.out.2.2 _) (fun f=>f),((HT.out.2.1.setCell (p:=⟨b,1,none⟩) (.inl rfl) (.int .i64 9)).alloc _)⟩
def WRel (w:World)(b d:Nat)(x:Val)(r:Nat×Int)(gk:Nat)(v64:Value)(wr:World):Prop:=
 ∃(i:Nat) (cur:Nat×Int),v64= .int .i64 i∧i≤x.list.length∧gk=x.list.length - i∧CX wr b cur∧Keeps (fun j=>j=b) w wr∧walkV.walkL (x.list.drop i) (d+1) cur=r∧(cur.2=0→cur.1≤256∧d<8)∧w.heap.size<wr.heap.size
theorem walk_list (n:Nat)(IH:∀(x:Val),x.parts≤n→∀(b d p:Nat) (e:Int) (c:VC) (F:Nat→Prop) (w:World),CX w b (p,e)→CF F w c x→¬F b→d≤8→(e=0→p≤256)→
   Calls Tryz.prog 107 #[.pointer (some ⟨b,0,none⟩),.agg #[.int .i64 c.kind,.int .i64 c.n,.string c.s,.slice c.la c.ln c.lc],.int .i64 d] w (WPost w b (walkV x d (p,e))))
  (x:Val)
  (b d p:Nat)(e:Int)(ck cn:Int)(cs:ByteArray)(la:Option Addr)(ln lc:Nat)(F:Nat→Prop)(w:World)(H:CX w b (p,e))(C:CF F w ⟨ck,cn,cs,la,ln,lc⟩ x)(hF:¬F b)(hd:d≤8)(hp:e=0→p≤256)(r:Nat×Int)(hr:walkV x d (p,e)=r)
  (he:e=0)(h3:(x.kind==3)=true)(h2:¬256≤p)(hx:x.parts≤n+1)(g off:Nat)
  (hel:ln=x.list.length∧ln≤maxLen∧(∀(i:Nat) (y:Val),x.list[i]? =some y→F g∧g<w.heap.size∧∃c,CF F w c y∧
    w.cell? ⟨g,off+i*4,none⟩=some (.int .i64 c.kind)∧w.cell? ⟨g,off+i*4+1,none⟩=some (.int .i64 c.n)∧w.cell? ⟨g,off+i*4+2,none⟩=some (.string c.s)∧w.cell? ⟨g,off+i*4+3,none⟩=some (.slice c.la c.ln c.lc)))(hla:la=some ⟨g,off,none⟩):
  Calls Tryz.prog 107 #[.pointer (some ⟨b,0,none⟩),.agg #[.int .i64 ck,.int .i64 cn,.string cs,.slice la ln lc],.int .i64 d] w (WPost w b r)
  :=by
 subst he
 subst hla
 have b0:=H.lt
 have c0:=H.c0
 have c1:=H.c1
 have f0:=H.fr
 rw[walkV_eq]at hr
 have hck:ck=x.kind:=C.kind
 have hcs:cs=x.txt:=C.s
 have HH:=zh2 H C
 clear H C
 dsimp only at c0 c1
 simp only[bne_self_eq_false,cond_false]at hr
 have hp:=hp rfl
 have HI:=zhd IH
 have k0:(x.kind==0||x.kind==1)=false:=by have:=beq_iff_eq.1 h3;rw[this];rfl
 have k2:(x.kind==2)=false:=by have:=beq_iff_eq.1 h3;rw[this];rfl
 have hck3:ck=3:=by rw[hck];exact beq_iff_eq.1 h3
 subst hck3
 rw[k0,k2,h3]at hr
 have hd2:decide (256≤p)=false:=by rw[decide_eq_false_iff_not];exact h2
 rw[hd2]at hr
 simp only[cond_false,cond_true]at hr
 have e2:¬(256:Int)<(p:Int)+1:=by omega
 obtain⟨hln,hlm,hel⟩:=hel
 rw[←hln]at hr
 have HE:=zhd hel
 have HL:=zhd hln
 unfold maxLen at hlm
 have T0:=HH.out.1.set0 (p+1)
 have K0:Keeps (fun j=>j=b) w (w.setCell ⟨b,0,none⟩ (.int .i64 ((p:Int)+1))):=Keeps.setCell (S:=fun j=>j=b) (p:=⟨b,0,none⟩) (Keeps.refl _ w) (.inl rfl) _
 have KA:∀W,Keeps (fun _=>False) W (W.alloc (.cells #[.int .i64 3,.int .i64 cn,.string cs,.slice (some ⟨g,off,none⟩) ln lc] 39)):=fun W=>(Keeps.refl _ _).alloc _
 have HT:=zh3 T0 K0 KA
 clear T0 K0 KA hck hcs k0 k2 h3 hd2 IH hel hln h2
 go_enter Tryz.func107,Tryz.ntmps107
 have cases3:(∃e1:Int,walkV.walkL x.list (d+1) (p+1,e1)=r∧((8≤d∧e1=30)∨(¬8≤d∧64<ln∧e1=2)∨(¬8≤d∧¬64<ln∧e1=0))):=by
  refine⟨_,hr,?_⟩
  by_cases h8:8≤d
  ·exact .inl ⟨h8,by simp[h8]⟩
  ·by_cases h64:64<ln
   ·exact .inr (.inl ⟨h8,h64,by simp[h8,h64]⟩)
   ·exact .inr (.inr ⟨h8,h64,by simp[h8,h64]⟩)
 clear hr
 obtain⟨e1,hr,hc3⟩:=cases3
 have HR:=zhd hr
 clear hr
 rcases hc3 with⟨h8,rfl⟩|⟨h8,h64,rfl⟩|⟨h8,h64,rfl⟩
 ·have t8:(8:Int)≤d:=by omega
  go_wp2_with fail
  have T1:=(HT.out.1.set1 30).keep (HT.out.2.2 _) (fun f=>f)
  have K1:=(HT.out.2.1.setCell (p:=⟨b,1,none⟩) (.inl rfl) (.int .i64 30)).alloc (.cells #[.int .i64 3,.int .i64 cn,.string cs,.slice (some ⟨g,off,none⟩) ln lc] 39)
  go_loopg [64] (x.list.length) (fun gk v64 wr=>WRel w b d x r gk v64 wr)
  case atStart=>exact⟨0,(p+1,(30:Int)),rfl,Nat.zero_le _,rfl,T1,K1,HR.out,(by intro h;first|(simp at h;done)|(constructor<;>omega)),by simp⟩
  case round=>
   clear T1 K1 c0 c1 f0
   obtain⟨i,cur,rfl,hi,hgk,hT,hK,hw,hbd,hsz⟩:=hrel
   have c0:=hT.c0
   have c1:=hT.c1
   have f0:=hT.fr
   have b1:=hT.lt
   by_cases hin:i<ln
   ·obtain⟨y,hy⟩:=elem_at (l:=x.list) (k:=i) (by have:=HL.out;omega)
    obtain⟨hFg,hg,c',hC,q0,q1,q2,q3⟩:=HE.out i y hy
    have hgb:g≠b:=fun e=>hF (e▸hFg)
    have hgl:g<wr.heap.size:=by omega
    rw[←hK.cell (p:=⟨g,_,none⟩) hg hgb]at q0 q1 q2 q3
    have hdr:x.list.drop i=y::x.list.drop (i+1):=by
     rw[List.drop_eq_getElem_cons (zge hy).1,(zge hy).2]
    rw[hdr,walkL_cons]at hw
    have hC':=hC.keep hK (fun g h e=>hF (e▸h))
    have hyp:y.parts≤n:=by
     have:=Val.parts_lt (v:=x) (zmg hy)
     omega
    have hin':(i:Int)<ln:=by omega
    cases hce:(cur.2 !=0)with
    |true=>
     rw[hce]at hw
     have HX:=zh3 hw hT hK
     clear hw hT hK hgk hbd hC hC' hdr hy
     go_wp2_with fail
     have hr':=HX.out.1
     simp only[cond_true]at hr'
     subst hr'
     exact bodyPost_ret (v:=.tuple #[]) (by simp only[results,Tryz.results107];go_simp) rfl ⟨rfl,HX.out.2.1.keep (S:=fun _=>False) ((Keeps.refl _ _).alloc _) (fun f=>f),HX.out.2.2.alloc _⟩
    |false=>
     rw[hce]at hw
     have hc0:cur.2=0:=by simpa using hce
     obtain⟨hb1,hb2⟩:=hbd hc0
     exfalso
     omega
   ·obtain rfl:i=ln:=by have:=HL.out;omega
    rw[List.drop_eq_nil_of_le (by have:=HL.out;omega),walkL_nil]at hw
    have HX:=zh3 hw hT hK
    clear hw hT hK hgk hbd
    go_wp2_with fail
    have hr':=HX.out.1
    subst hr'
    go_end0
    exact⟨rfl,HX.out.2.1,HX.out.2.2⟩
 ·have t8:¬(8:Int)≤d:=by omega
  have t64:(64:Int)<ln:=by omega
  go_wp2_with fail
  have T1:=(HT.out.1.set1 2).keep (HT.out.2.2 _) (fun f=>f)
  have K1:=(HT.out.2.1.setCell (p:=⟨b,1,none⟩) (.inl rfl) (.int .i64 2)).alloc (.cells #[.int .i64 3,.int .i64 cn,.string cs,.slice (some ⟨g,off,none⟩) ln lc] 39)
  go_loopg [64] (x.list.length) (fun gk v64 wr=>WRel w b d x r gk v64 wr)
  case atStart=>exact⟨0,(p+1,(2:Int)),rfl,Nat.zero_le _,rfl,T1,K1,HR.out,(by intro h;first|(simp at h;done)|(constructor<;>omega)),by simp⟩
  case round=>
   clear T1 K1 c0 c1 f0
   obtain⟨i,cur,rfl,hi,hgk,hT,hK,hw,hbd,hsz⟩:=hrel
   have c0:=hT.c0
   have c1:=hT.c1
   have f0:=hT.fr
   have b1:=hT.lt
   by_cases hin:i<ln
   ·obtain⟨y,hy⟩:=elem_at (l:=x.list) (k:=i) (by have:=HL.out;omega)
    obtain⟨hFg,hg,c',hC,q0,q1,q2,q3⟩:=HE.out i y hy
    have hgb:g≠b:=fun e=>hF (e▸hFg)
    have hgl:g<wr.heap.size:=by omega
    rw[←hK.cell (p:=⟨g,_,none⟩) hg hgb]at q0 q1 q2 q3
    have hdr:x.list.drop i=y::x.list.drop (i+1):=by
     rw[List.drop_eq_getElem_cons (zge hy).1,(zge hy).2]
    rw[hdr,walkL_cons]at hw
    have hC':=hC.keep hK (fun g h e=>hF (e▸h))
    have hyp:y.parts≤n:=by
     have:=Val.parts_lt (v:=x) (zmg hy)
     omega
    have hin':(i:Int)<ln:=by omega
    cases hce:(cur.2 !=0)with
    |true=>
     rw[hce]at hw
     have HX:=zh3 hw hT hK
     clear hw hT hK hgk hbd hC hC' hdr hy
     go_wp2_with fail
     have hr':=HX.out.1
     simp only[cond_true]at hr'
     subst hr'
     exact bodyPost_ret (v:=.tuple #[]) (by simp only[results,Tryz.results107];go_simp) rfl ⟨rfl,HX.out.2.1.keep (S:=fun _=>False) ((Keeps.refl _ _).alloc _) (fun f=>f),HX.out.2.2.alloc _⟩
    |false=>
     rw[hce]at hw
     have hc0:cur.2=0:=by simpa using hce
     obtain⟨hb1,hb2⟩:=hbd hc0
     have HX:=zh4 hw hT hK hgk
     have hTA:=hT.keep (S:=fun _=>False) ((Keeps.refl _ _).alloc (.cells #[.int .i64 c'.kind,.int .i64 c'.n,.string c'.s,.slice c'.la c'.ln c'.lc] 39)) (fun f=>f)
     have hCA:=hC'.keep (S:=fun _=>False) ((Keeps.refl _ _).alloc (.cells #[.int .i64 c'.kind,.int .i64 c'.n,.string c'.s,.slice c'.la c'.ln c'.lc] 39)) (fun _ _ f=>f)
     have CA:=zhd (HI.out y hyp b (d+1) cur.1 cur.2 c' F _ hTA hCA hF (by omega) (fun _=>hb1))
     clear hw hT hK hgk hbd hC hC' hdr hy hTA hCA
     go_wp2_with fail
     refine CA.out.mono ?_
     rintro e w5 ⟨rfl,hT5,hK5⟩
     have hb5:=walkV_bd y (d+1) (cur.1,cur.2) (fun _=>hb1)
     have H5:=zh3 hT5 hK5 hb5
     clear hT5 hK5 hb5
     go_wp2_with fail
     go_roundg (x.list.length - (i+1))
     case measure=>have:=HX.out.2.2.2;have:=HL.out;omega
     case rel=>
      have hw':=HX.out.1
      simp only[cond_false]at hw'
      refine⟨i+1,_,by simp,(by have:=HL.out;omega),rfl,H5.out.1,(HX.out.2.2.1.alloc _).trans H5.out.2.1 (fun _ _ e=>e),hw',(fun h=>⟨H5.out.2.2 h,hb2⟩),?_⟩
      have:=H5.out.2.1.size
      simp at this
      omega
   ·obtain rfl:i=ln:=by have:=HL.out;omega
    rw[List.drop_eq_nil_of_le (by have:=HL.out;omega),walkL_nil]at hw
    have HX:=zh3 hw hT hK
    clear hw hT hK hgk hbd
    go_wp2_with fail
    have hr':=HX.out.1
    subst hr'
    go_end0
    exact⟨rfl,HX.out.2.1,HX.out.2.2⟩
 ·have t8:¬(8:Int)≤d:=by omega
  have t64:¬(64:Int)<ln:=by omega
  go_wp2_with fail
  have T1:=HT.out.1.keep (HT.out.2.2 _) (fun f=>f)
  have K1:=HT.out.2.1.alloc (.cells #[.int .i64 3,.int .i64 cn,.string cs,.slice (some ⟨g,off,none⟩) ln lc] 39)
  go_loopg [64] (x.list.length) (fun gk v64 wr=>WRel w b d x r gk v64 wr)
  case atStart=>exact⟨0,(p+1,(0:Int)),rfl,Nat.zero_le _,rfl,T1,K1,HR.out,(by intro h;first|(simp at h;done)|(constructor<;>omega)),by simp⟩
  case round=>
   clear T1 K1 c0 c1 f0
   obtain⟨i,cur,rfl,hi,hgk,hT,hK,hw,hbd,hsz⟩:=hrel
   have c0:=hT.c0
   have c1:=hT.c1
   have f0:=hT.fr
   have b1:=hT.lt
   by_cases hin:i<ln
   ·obtain⟨y,hy⟩:=elem_at (l:=x.list) (k:=i) (by have:=HL.out;omega)
    obtain⟨hFg,hg,c',hC,q0,q1,q2,q3⟩:=HE.out i y hy
    have hgb:g≠b:=fun e=>hF (e▸hFg)
    have hgl:g<wr.heap.size:=by omega
    rw[←hK.cell (p:=⟨g,_,none⟩) hg hgb]at q0 q1 q2 q3
    have hdr:x.list.drop i=y::x.list.drop (i+1):=by
     rw[List.drop_eq_getElem_cons (zge hy).1,(zge hy).2]
    rw[hdr,walkL_cons]at hw
    have hC':=hC.keep hK (fun g h e=>hF (e▸h))
    have hyp:y.parts≤n:=by
     have:=Val.parts_lt (v:=x) (zmg hy)
     omega
    have hin':(i:Int)<ln:=by omega
    cases hce:(cur.2 !=0)with
    |true=>
     rw[hce]at hw
     have HX:=zh3 hw hT hK
     clear hw hT hK hgk hbd hC hC' hdr hy
     go_wp2_with fail
     have hr':=HX.out.1
     simp only[cond_true]at hr'
     subst hr'
     exact bodyPost_ret (v:=.tuple #[]) (by simp only[results,Tryz.results107];go_simp) rfl ⟨rfl,HX.out.2.1.keep (S:=fun _=>False) ((Keeps.refl _ _).alloc _) (fun f=>f),HX.out.2.2.alloc _⟩
    |false=>
     rw[hce]at hw
     have hc0:cur.2=0:=by simpa using hce
     obtain⟨hb1,hb2⟩:=hbd hc0
     have HX:=zh4 hw hT hK hgk
     have hTA:=hT.keep (S:=fun _=>False) ((Keeps.refl _ _).alloc (.cells #[.int .i64 c'.kind,.int .i64 c'.n,.string c'.s,.slice c'.la c'.ln c'.lc] 39)) (fun f=>f)
     have hCA:=hC'.keep (S:=fun _=>False) ((Keeps.refl _ _).alloc (.cells #[.int .i64 c'.kind,.int .i64 c'.n,.string c'.s,.slice c'.la c'.ln c'.lc] 39)) (fun _ _ f=>f)
     have CA:=zhd (HI.out y hyp b (d+1) cur.1 cur.2 c' F _ hTA hCA hF (by omega) (fun _=>hb1))
     clear hw hT hK hgk hbd hC hC' hdr hy hTA hCA
     go_wp2_with fail
     refine CA.out.mono ?_
     rintro e w5 ⟨rfl,hT5,hK5⟩
     have hb5:=walkV_bd y (d+1) (cur.1,cur.2) (fun _=>hb1)
     have H5:=zh3 hT5 hK5 hb5
     clear hT5 hK5 hb5
     go_wp2_with fail
     go_roundg (x.list.length - (i+1))
     case measure=>have:=HX.out.2.2.2;have:=HL.out;omega
     case rel=>
      have hw':=HX.out.1
      simp only[cond_false]at hw'
      refine⟨i+1,_,by simp,(by have:=HL.out;omega),rfl,H5.out.1,(HX.out.2.2.1.alloc _).trans H5.out.2.1 (fun _ _ e=>e),hw',(fun h=>⟨H5.out.2.2 h,hb2⟩),?_⟩
      have:=H5.out.2.1.size
      simp at this
      omega
   ·obtain rfl:i=ln:=by have:=HL.out;omega
    rw[List.drop_eq_nil_of_le (by have:=HL.out;omega),walkL_nil]at hw
    have HX:=zh3 hw hT hK
    clear hw hT hK hgk hbd
    go_wp2_with fail
    have hr':=HX.out.1
    subst hr'
    go_end0
    exact⟨rfl,HX.out.2.1,HX.out.2.2⟩
theorem walk_list0 (x:Val)
  (b d p:Nat)(e:Int)(ck cn:Int)(cs:ByteArray)(la:Option Addr)(ln lc:Nat)(F:Nat→Prop)(w:World)(H:CX w b (p,e))(C:CF F w ⟨ck,cn,cs,la,ln,lc⟩ x)(hF:¬F b)(hd:d≤8)(hp:e=0→p≤256)(r:Nat×Int)(hr:walkV x d (p,e)=r)
  (he:e=0)(h3:(x.kind==3)=true)(h2:¬256≤p)(hl:x.list=[])(hl0:ln=0):
  Calls Tryz.prog 107 #[.pointer (some ⟨b,0,none⟩),.agg #[.int .i64 ck,.int .i64 cn,.string cs,.slice la ln lc],.int .i64 d] w (WPost w b r)
  :=by
 have _h:=hF
 subst he
 subst hl0
 have b0:=H.lt
 have c0:=H.c0
 have c1:=H.c1
 have f0:=H.fr
 rw[walkV_eq]at hr
 have hck:ck=x.kind:=C.kind
 have hcs:cs=x.txt:=C.s
 have HH:=zh2 H C
 clear H C
 dsimp only at c0 c1
 simp only[bne_self_eq_false,cond_false]at hr
 have hp:=hp rfl
 have k0:(x.kind==0||x.kind==1)=false:=by have:=beq_iff_eq.1 h3;rw[this];rfl
 have k2:(x.kind==2)=false:=by have:=beq_iff_eq.1 h3;rw[this];rfl
 have hck3:ck=3:=by rw[hck];exact beq_iff_eq.1 h3
 subst hck3
 rw[k0,k2,h3]at hr
 have hd2:decide (256≤p)=false:=by rw[decide_eq_false_iff_not];exact h2
 rw[hd2,hl,walkL_nil]at hr
 simp only[cond_false,cond_true]at hr
 have e2:¬(256:Int)<(p:Int)+1:=by omega
 have T0:=HH.out.1.set0 (p+1)
 have K0:Keeps (fun j=>j=b) w (w.setCell ⟨b,0,none⟩ (.int .i64 ((p:Int)+1))):=Keeps.setCell (S:=fun j=>j=b) (p:=⟨b,0,none⟩) (Keeps.refl _ w) (.inl rfl) _
 have KA:∀W,Keeps (fun _=>False) W (W.alloc (.cells #[.int .i64 3,.int .i64 cn,.string cs,.slice la 0 lc] 39)):=fun W=>(Keeps.refl _ _).alloc _
 have HT:=zh3 T0 K0 KA
 clear T0 K0 KA hck hcs k0 k2 h3 hd2 h2
 go_enter Tryz.func107,Tryz.ntmps107
 by_cases h8:8≤d
 ·have t8:(8:Int)≤d:=by omega
  have t9:decide (8≤d)=true:=by rw[decide_eq_true_eq];exact h8
  rw[t9]at hr
  have HR:=zhd hr
  clear hr t9
  go_wp2_with fail
  have T1:=(HT.out.1.set1 30).keep (HT.out.2.2 _) (fun f=>f)
  have K1:=(HT.out.2.1.setCell (p:=⟨b,1,none⟩) (.inl rfl) (.int .i64 30)).alloc (.cells #[.int .i64 3,.int .i64 cn,.string cs,.slice la 0 lc] 39)
  go_loopg [64] (0) (fun _ v64 wr=>v64= .int .i64 0∧CX wr b (p+1,30)∧Keeps (fun j=>j=b) w wr)
  case atStart=>exact⟨rfl,T1,K1⟩
  case round=>
   obtain⟨rfl,hT,hK⟩:=hrel
   have hr':=HR.out
   simp only[cond_true]at hr'
   subst hr'
   clear c0 c1 f0 T1 K1 HR
   go_wp2_with fail
   go_end0
   exact⟨rfl,hT,hK⟩
 ·have t8:¬(8:Int)≤d:=by omega
  have t9:decide (8≤d)=false:=by rw[decide_eq_false_iff_not];exact h8
  rw[t9]at hr
  have HR:=zhd hr
  clear hr t9
  go_wp2_with fail
  have T1:=HT.out.1.keep (HT.out.2.2 _) (fun f=>f)
  have K1:=HT.out.2.1.alloc (.cells #[.int .i64 3,.int .i64 cn,.string cs,.slice la 0 lc] 39)
  go_loopg [64] (0) (fun _ v64 wr=>v64= .int .i64 0∧CX wr b (p+1,0)∧Keeps (fun j=>j=b) w wr)
  case atStart=>exact⟨rfl,T1,K1⟩
  case round=>
   obtain⟨rfl,hT,hK⟩:=hrel
   have hr':=HR.out
   simp at hr'
   subst hr'
   clear c0 c1 f0 T1 K1 HR
   go_wp2_with fail
   go_end0
   exact⟨rfl,hT,hK⟩
theorem walk_any:∀(n:Nat) (x:Val),x.parts≤n→∀(b d p:Nat) (e:Int) (c:VC) (F:Nat→Prop) (w:World),CX w b (p,e)→CF F w c x→¬F b→d≤8→(e=0→p≤256)→
   Calls Tryz.prog 107 #[.pointer (some ⟨b,0,none⟩),.agg #[.int .i64 c.kind,.int .i64 c.n,.string c.s,.slice c.la c.ln c.lc],.int .i64 d] w (WPost w b (walkV x d (p,e)))
 |0,x,hx,_,_,_,_,_,_,_,_,_,_,_,_=>by have:=x.parts_pos;omega
 |n+1,x,hx,b,d,p,e,⟨ck,cn,cs,la,ln,lc⟩,F,w,H,C,hF,hd,hp=>by
  cases he:(e !=0)with
  |true=>exact walk_err x b d p e ck cn cs la ln lc F w H C hF hd hp _ rfl he
  |false=>
   have he0:e=0:=by simpa using he
   by_cases h2:256≤p
   ·exact walk_one x b d p e ck cn cs la ln lc F w H C hF hd hp _ rfl he0 (.inr h2)
   ·cases h3:(x.kind==3)with
    |false=>exact walk_one x b d p e ck cn cs la ln lc F w H C hF hd hp _ rfl he0 (.inl h3)
    |true=>
     obtain⟨h4,h5,h6⟩:=C.l.elems
     rcases h6 with h6|⟨g,off,hla,hFg,hg,h6⟩
     ·exact walk_list0 x b d p e ck cn cs la ln lc F w H C hF hd hp _ rfl he0 h3 h2 h6 (by rw[show ln=x.list.length from h4,h6];rfl)
     ·exact walk_list n (fun y hy=>walk_any n y hy) x b d p e ck cn cs la ln lc F w H C hF hd hp _ rfl he0 h3 h2 hx g off ⟨h4,h5,fun i y hy=>⟨hFg,hg,h6 i y hy⟩⟩ hla
end Go.Proofs.YtakljipkaoahnaaGreatDoor
