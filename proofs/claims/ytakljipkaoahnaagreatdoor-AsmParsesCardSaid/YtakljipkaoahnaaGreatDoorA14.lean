/- Parts of the proof: what the functions and the plain laws give that later parts lean on. Conditions: none beyond those that each theorem names. -/
import Derived.Lib.Split
import Derived.Test.YtakljipkaoahnaaGreatDoorA13
set_option maxRecDepth 100000
set_option maxHeartbeats 8000000
namespace Go.Proofs.YtakljipkaoahnaaGreatDoor
open Go.RowKit Go.Own Go.Own.MapTy Go.Va Go.Sort
open Go.Own.Cells (sz enc)
def linesR:List ByteArray→Nat→RSt→(Int×Int)×RSt
 |[],_,st=>((0,0),st)
 |l::r,n,st=>bif (lineL ((n:Int)+1) l st).1 !=0 then(((n:Int)+1,(lineL ((n:Int)+1) l st).1),(lineL ((n:Int)+1) l st).2)else linesR r (n+1) (lineL ((n:Int)+1) l st).2
def setA (code:List In)(at_:Nat)(tg:Int):List In:=code.modify at_ (fun c=>{c with a:=tg})
def jumpsR (labels:List (ByteArray×Int)):List Jp→List In→(Int×Int)×List In
 |[],code=>((0,0),code)
 |j::r,code=>match MapTy.get labels j.label with
  |none=>((j.line,120),code)
  |some tg=>bif tg==code.length then((j.line,120),code)else jumpsR labels r (setA code j.at_.toNat tg)
def st0:RSt:=⟨[],[],[],0,[],[]⟩
def noImg:Img:=⟨[],[],[],0⟩
def textL (s:ByteArray):List ByteArray:=Lib.splitB ⟨#[10]⟩ 0 (Lib.countB ⟨(Lib.trimSuffix s.data.toList [10]).toArray⟩ ⟨#[10]⟩) ⟨(Lib.trimSuffix s.data.toList [10]).toArray⟩
def asmL (s:ByteArray):Img×Int×Int:=
 bif decide (65536<s.size)then(noImg,0,2)else
 bif !(Lib.hasSuffix s.data.toList [10])then(noImg,0,8)else
 let q:=linesR (textL s) 0 st0
 bif q.1.2 !=0 then(noImg,q.1.1,q.1.2)else
 let j:=jumpsR q.2.labels q.2.jumps q.2.code
 bif j.1.2 !=0 then(noImg,j.1.1,j.1.2)else
 let p:Img:=⟨j.2,q.2.consts,q.2.names,q.2.places⟩
 bif imgL p !=0 then(noImg,0,imgL p)else(p,0,0)
structure Small (n:Nat)(st:RSt):Prop where
 code:st.code.length≤n
 consts:st.consts.length≤n
 names:st.names.length≤n
 jumps:st.jumps.length≤n
 p0:0≤st.places
 p1:st.places≤100
 wf:∀x∈st.consts,x.wf
 at_:∀j∈st.jumps,0≤j.at_∧j.at_.toNat<65537
theorem numberL_lt {s:List UInt8}{n:Nat}(h:numberL s=some n):n<100:=by
 unfold numberL at h
 split at h
 ·split at h
  ·cases h;omega
  ·cases h
 ·cases h
theorem addV_len {x:Val}{l l':List Val}{i:Nat}(h:addV x l=(i,l')):l'.length≤l.length+1∧∀y∈l',y∈l∨y=x:=by
 unfold addV at h
 split at h
 ·cases h;exact⟨by omega,fun y hy=>.inl hy⟩
 ·cases h;exact⟨by simp,fun y hy=>by simpa using hy⟩
theorem addN_len {x:ByteArray}{l l':List ByteArray}{i:Nat}(h:addN x l=(i,l')):l'.length≤l.length+1:=by
 unfold addN at h
 split at h
 ·cases h;omega
 ·cases h;simp
theorem parseV_wf (s:ByteArray)(hs:s.size≤65536):(parseV s.data.toList).1.wf:=by
 have hn:vNil.wf:=by
  rw[vNil,Val.wf,Val.wf.wfL]
  exact⟨⟨by decide,by decide⟩,⟨by decide,by decide⟩,Nat.zero_le _,trivial⟩
 unfold parseV
 split
 ·exact hn
 ·exact hn
 ·rename_i x k hv
  split
  ·exact hn
  ·split
   ·exact hn
   ·exact valR_wf 8 _ _ _ _ (by simp;omega) hv
theorem operL_small {n:Nat}{kind line:Int}{s:ByteArray}{st:RSt}(hs:s.size≤65536)(hn:n≤65536)(h:Small n st):Small (n+1) (operL kind line s st).2.2:=by
 have h0:Small (n+1) st:=⟨by have:=h.code;omega,by have:=h.consts;omega,by have:=h.names;omega,by have:=h.jumps;omega,h.p0,h.p1,h.wf,h.at_⟩
 unfold operL
 split
 ·split
  ·exact h0
  ·obtain⟨i,l',hq⟩:∃i l',addV (parseV s.data.toList).1 st.consts=(i,l'):=⟨_,_,rfl⟩
   rw[hq]
   obtain⟨h1,h2⟩:=addV_len hq
   exact⟨h0.code,by have:=h.consts;show l'.length≤_;omega,h0.names,h0.jumps,h.p0,h.p1,fun y hy=>(h2 y hy).elim (h.wf y) (fun e=>e▸parseV_wf s hs),h.at_⟩
 ·split
  ·split
   ·exact h0
   ·rename_i nm _
    obtain⟨i,l',hq⟩:∃i l',addN nm st.names=(i,l'):=⟨_,_,rfl⟩
    rw[hq]
    have h1:=addN_len hq
    exact⟨h0.code,h0.consts,by have:=h.names;show l'.length≤_;omega,h0.jumps,h.p0,h.p1,h.wf,h.at_⟩
  ·split
   ·split
    ·refine⟨h0.code,h0.consts,h0.names,by have:=h.jumps;simp;omega,h.p0,h.p1,h.wf,fun j hj=> ?_⟩
     simp at hj
     rcases hj with hj|rfl
     ·exact h.at_ j hj
     ·have:=h.code
      dsimp only
      omega
    ·exact h0
   ·split
    ·exact h0
    ·rename_i m hm
     have hlt:=numberL_lt hm
     dsimp only
     split
     ·exact⟨h0.code,h0.consts,h0.names,h0.jumps,by have:=h.p0;show 0≤max _ _;omega,by have:=h.p1;show max _ _≤_;omega,h.wf,h.at_⟩
     ·exact h0
theorem lineL_small {n:Nat}{line:Int}{s:ByteArray}{st:RSt}(hs:s.size≤65536)(hn:n≤65536)(h:Small n st):Small (n+1) (lineL line s st).2:=by
 have h0:Small (n+1) st:=⟨by have:=h.code;omega,by have:=h.consts;omega,by have:=h.names;omega,by have:=h.jumps;omega,h.p0,h.p1,h.wf,h.at_⟩
 unfold lineL
 split
 ·split
  ·exact h0
  ·exact⟨h0.code,h0.consts,h0.names,h0.jumps,h.p0,h.p1,h.wf,h.at_⟩
 ·split
  ·exact h0
  ·split
   ·exact h0
   ·rename_i op _
    split
    ·exact h0
    ·split
     ·have hcs:(cutR s).size≤65536:=by have:=cut_len s;omega
      have h1:=operL_small (kind:=(ofL op).1.operand) (line:=line) hcs hn h
      have h2:=operL_code (ofL op).1.operand line (cutR s) st
      generalize operL (ofL op).1.operand line (cutR s) st=q at h1 h2
      split
      ·exact h1
      ·exact⟨by have:=h.code;simp[h2];omega,h1.consts,h1.names,h1.jumps,h1.p0,h1.p1,h1.wf,h1.at_⟩
     ·exact⟨by have:=h.code;simp;omega,h0.consts,h0.names,h0.jumps,h.p0,h.p1,h.wf,h.at_⟩
def AtOk (st:RSt):Prop:=∀j∈st.jumps,0≤j.at_∧j.at_.toNat<st.code.length
theorem operL_at {kind line:Int}{s:ByteArray}{st:RSt}(h:AtOk st):∀j∈(operL kind line s st).2.2.jumps,0≤j.at_∧j.at_.toNat<st.code.length+1:=by
 have h0:∀j∈st.jumps,0≤j.at_∧j.at_.toNat<st.code.length+1:=fun j hj=>by have:=h j hj;omega
 unfold operL
 split
 ·split<;>exact h0
 ·split
  ·split<;>exact h0
  ·split
   ·split
    ·intro j hj
     simp at hj
     rcases hj with hj|rfl
     ·exact h0 j hj
     ·dsimp only;omega
    ·exact h0
   ·split
    ·exact h0
    ·dsimp only
     split<;>exact h0
theorem lineL_at {line:Int}{s:ByteArray}{st:RSt}(h:AtOk st):(lineL line s st).1=0→AtOk (lineL line s st).2:=by
 unfold lineL
 split
 ·split
  ·exact fun _=>h
  ·exact fun _=>h
 ·split
  ·exact fun _=>h
  ·split
   ·exact fun _=>h
   ·rename_i op _
    split
    ·exact fun _=>h
    ·split
     ·have h1:=operL_at (kind:=(ofL op).1.operand) (line:=line) (s:=cutR s) h
      have h2:=operL_code (ofL op).1.operand line (cutR s) st
      generalize operL (ofL op).1.operand line (cutR s) st=q at h1 h2
      split
      ·rename_i hne
       exact fun e=>absurd e hne
      ·intro _ j hj
       have:=h1 j hj
       simp only[List.length_append,List.length_cons,List.length_nil,h2]
       omega
     ·intro _ j hj
      have:=h j hj
      simp only[List.length_append,List.length_cons,List.length_nil]
      omega
theorem linesR_at:∀(ls:List ByteArray) (n:Nat) (st:RSt),AtOk st→(linesR ls n st).1.2=0→AtOk (linesR ls n st).2
 |[],_,_,h,_=>h
 |l::r,n,st,h,hz=>by
  rw[linesR]at hz⊢
  cases hb:((lineL ((n:Int)+1) l st).1 !=0)with
  |true=>
   rw[hb]at hz
   simp only[cond_true]at hz
   rw[hz]at hb
   cases hb
  |false=>
   rw[hb]at hz
   simp only[cond_false]at hz⊢
   exact linesR_at r _ _ (lineL_at h (by simpa using hb)) hz
theorem setA_set {code:List In}{i:Nat}{x:In}(hx:code[i]? =some x)(tg:Int):setA code i tg=code.set i {x with a:=tg}:=by
 unfold setA
 apply List.ext_getElem?
 intro k
 rw[List.getElem?_modify,List.getElem?_set]
 by_cases h:i=k
 ·subst h
  obtain⟨h1,h2⟩:=zge hx
  simp[h1,h2]
 ·simp[h]
def APost (w:World)(r:Img×Int×Int)(e:Ending)(w':World):Prop:=
 ∃i:IC,e= .returned (.tuple #[.agg #[.slice i.ca i.cn i.cc,.slice i.ka i.kn i.kc,.slice i.na i.nn i.nc,.int .i64 i.pl],.agg #[.int .i64 r.2.1,.int .i64 r.2.2]])∧IAt (fun j=>w.heap.size≤j) w' i r.1∧Below w.heap.size w w'
theorem iat_none (F:Nat→Prop)(w:World):IAt F w ⟨none,0,0,none,0,0,none,0,0,0⟩ noImg:=⟨RdF.nil _ _,VF.nil _ _,RdF.nil _ _,rfl⟩
theorem asm_long (s:ByteArray)(w:World)(h:65536<s.size):Calls Tryz.prog 10 #[.string s] w (APost w (noImg,0,2)):=by
 have e1:(65536:Int)<s.size:=by omega
 go_enter Tryz.func10,Tryz.ntmps10
 go_wp2_with fail
 exact bodyPost_ret (v:=.tuple #[.agg #[.slice none 0 0,.slice none 0 0,.slice none 0 0,.int .i64 0],.agg #[.int .i64 0,.int .i64 2]]) (by simp only[results,Tryz.results10];go_simp) rfl ⟨⟨none,0,0,none,0,0,none,0,0,0⟩,rfl,iat_none _ _,(zal).alloc (by simp) _⟩
theorem asm_form (s:ByteArray)(w:World)(h:s.size≤65536)(hn:Lib.hasSuffix s.data.toList [10]=false):Calls Tryz.prog 10 #[.string s] w (APost w (noImg,0,8)):=by
 have e1:¬(65536:Int)<s.size:=by omega
 have CSF:=zhd (show∀W,∃t,Calls Tryz.prog 33 #[.string s,.string ⟨#[10]⟩] W (fun e w'=>e= .returned (.tuple #[.string t,.bool false])∧w'=W)from fun W=>⟨_,(Any.strings_CutSuffix Tryz.lays104 s ⟨#[10]⟩ W (by omega)).mono fun e w' ⟨j1,j2⟩=>⟨by rw[j1,show(⟨#[10]⟩:ByteArray).data.toList=[10]from rfl,hn],j2⟩⟩)
 have _hmm:= @run_makeMap Tryz.prog
 go_enter Tryz.func10,Tryz.ntmps10
 go_wp2_with fail
 obtain⟨t,CS⟩:=CSF.out _
 refine CS.mono ?_
 rintro e w1 ⟨rfl,rfl⟩
 go_wp2_with fail
 exact bodyPost_ret (v:=.tuple #[.agg #[.slice none 0 0,.slice none 0 0,.slice none 0 0,.int .i64 0],.agg #[.int .i64 0,.int .i64 8]]) (by simp only[results,Tryz.results10];go_simp) rfl ⟨⟨none,0,0,none,0,0,none,0,0,0⟩,rfl,iat_none _ _,(((zal).alloc (by simp) _).alloc (by simp;omega) _).alloc (by simp;omega) _⟩
def v0 (mb:Nat):RV:=⟨.slice none 0 0,.slice none 0 0,.slice none 0 0,.slice none 0 0,0,some mb⟩
theorem rx_new {Z:Nat→Prop}{W:World}{b mb:Nat}(hb:W.heap[b]? =some (.cells #[.slice none 0 0,.slice none 0 0,.slice none 0 0,.int .i64 0,.map (some mb),.slice none 0 0] 85 (0,0)))(hm:W.heap[mb]? =some (.map #[] 0)):RX Z W b (v0 mb) st0:=by
 have hne:mb≠b:=fun e=>by rw[e,hb]at hm;cases hm
 refine⟨hb,RowAt.nil _ _,VRow.nil _ _ _,RowAt.nil _ _,RowAt.nil _ _,rfl,fun m h=> ?_,⟨(fun j h=> ?_),(fun j h=>by cases h),(fun j h=>by cases h),(fun j h=>by cases h),(fun j h=>by cases h)⟩⟩
 ·cases h
  exact⟨#[],0,hm,rfl,by simp[st0]⟩
 ·cases h
  exact hne
theorem small0:Small 0 st0:=⟨Nat.le_refl _,Nat.le_refl _,Nat.le_refl _,Nat.le_refl _,by decide,by decide,(fun x h=>by cases h),(fun j h=>by cases h)⟩
def JRel (Z:Nat→Prop)(W2:World)(b:Nat)(v:RV)(st:RSt)(q:(Int×Int)×List In)(gk:Nat)(v54:Value)(wr:World):Prop:=
 ∃(k:Nat) (code:List In),v54= .int .i64 k∧k≤st.jumps.length∧gk=st.jumps.length - k∧RX Z wr b v {st with code:=code}∧code.length=st.code.length∧jumpsR st.labels (st.jumps.drop k) code=q∧RK b v W2 v wr
def PLine (Z:Nat→Prop)(W2:World)(b mb:Nat)(ls:List ByteArray)(q:(Int×Int)×RSt)(gk:Nat)(v32:Value)(wr:World):Prop:=
 ∃(i:Nat) (st:RSt) (v:RV),v32= .int .i64 i∧i≤ls.length∧gk=ls.length - i∧RX Z wr b v st∧v.mb=some mb∧Small i st∧linesR (ls.drop i) i st=q∧RK b (v0 mb) W2 v wr
theorem map_enc:∀ls:List ByteArray,ls.map Value.string=ls.flatMap Cells.enc
 |[]=>rfl
 |a::r=>by rw[List.map_cons,List.flatMap_cons,map_enc r];rfl
theorem ro_v0 {mb b j:Nat}(h:RO (v0 mb) b j):j=b∨j=mb:=by
 rcases h with h|h|h|h|h|h
 ·exact .inl h
 ·exact .inr (Option.some.inj h).symm
 all_goals cases h
theorem splitB_size (sep:ByteArray)(n:Nat):∀(k:Nat) (s:ByteArray),s.size≤n→∀x∈Lib.splitB sep 0 k s,x.size≤n
 |0,s,h,x,hx=>by
  rw[Lib.splitB_zero,List.mem_singleton]at hx
  rw[hx];exact h
 |k+1,s,h,x,hx=>by
  unfold Lib.splitB at hx
  split at hx
  ·rw[List.mem_singleton]at hx
   rw[hx];exact h
  ·rcases List.mem_cons.1 hx with e|e
   ·rw[e,ByteArray.size_extract];omega
   ·exact splitB_size sep n k _ (by rw[ByteArray.size_extract];omega) x e
theorem below_of_keeps {S:Nat→Prop}{N:Nat}{w w':World}(h:Keeps S w w')(hs:∀j,S j→N≤j)(hN:N≤w.heap.size):Below N w w':=⟨h.os,h.tape,h.output,h.size,fun k hk=>h.block k (by omega) (fun e=>by have:=hs k e;omega)⟩
theorem keeps_six {S:Nat→Prop}{N:Nat}{w w':World}(K:Keeps S w w')(hs:∀j,S j→N≤j)(hN:N≤w.heap.size)(b1 b2 b3 b4 b5 b6 o1 o2 o3 o4 o5 o6:Nat)(v1 v2 v3 v4 v5 v6:Value)(h1:N≤b1)(h2:N≤b2)(h3:N≤b3)(h4:N≤b4)(h5:N≤b5)(h6:N≤b6):
  Below N w ((((((w'.setCell ⟨b1,o1,none⟩ v1).setCell ⟨b2,o2,none⟩ v2).setCell ⟨b3,o3,none⟩ v3).setCell ⟨b4,o4,none⟩ v4).setCell ⟨b5,o5,none⟩ v5).setCell ⟨b6,o6,none⟩ v6):=by
 have k0:Keeps (fun j=>N≤j) w w':=K.mono (fun j _ e=>hs j e)
 have k1:=Keeps.setCell (p:=⟨b1,o1,none⟩) k0 (.inl h1) v1
 have k2:=Keeps.setCell (p:=⟨b2,o2,none⟩) k1 (.inl h2) v2
 have k3:=Keeps.setCell (p:=⟨b3,o3,none⟩) k2 (.inl h3) v3
 have k4:=Keeps.setCell (p:=⟨b4,o4,none⟩) k3 (.inl h4) v4
 have k5:=Keeps.setCell (p:=⟨b5,o5,none⟩) k4 (.inl h5) v5
 have k6:=Keeps.setCell (p:=⟨b6,o6,none⟩) k5 (.inl h6) v6
 exact below_of_keeps k6 (fun j hj=>hj) hN
theorem six_keeps (w':World)(b1 b2 o1 o2 o3 o4 o5 o6:Nat)(v1 v2 v3 v4 v5 v6:Value):
  Keeps (fun j=>j=b1∨j=b2) w' ((((((w'.setCell ⟨b1,o1,none⟩ v1).setCell ⟨b1,o2,none⟩ v2).setCell ⟨b1,o3,none⟩ v3).setCell ⟨b1,o4,none⟩ v4).setCell ⟨b2,o5,none⟩ v5).setCell ⟨b2,o6,none⟩ v6):=by
 have k0:Keeps (fun j=>j=b1∨j=b2) w' w':=Keeps.refl _ _
 have k1:=Keeps.setCell (p:=⟨b1,o1,none⟩) k0 (.inl (.inl rfl)) v1
 have k2:=Keeps.setCell (p:=⟨b1,o2,none⟩) k1 (.inl (.inl rfl)) v2
 have k3:=Keeps.setCell (p:=⟨b1,o3,none⟩) k2 (.inl (.inl rfl)) v3
 have k4:=Keeps.setCell (p:=⟨b1,o4,none⟩) k3 (.inl (.inl rfl)) v4
 have k5:=Keeps.setCell (p:=⟨b2,o5,none⟩) k4 (.inl (.inr rfl)) v5
 exact Keeps.setCell (p:=⟨b2,o6,none⟩) k5 (.inl (.inr rfl)) v6
theorem row_jp {w:World}{e:TypeId}{xs:List Jp}{g off n cap:Nat}(h:RowAt w e (.slice (some ⟨g,off,none⟩) n cap) xs){i:Nat}{x:Jp}(hx:xs[i]? =some x):w.cell? ⟨g,off+i*3,none⟩=some (.int .i64 x.at_)∧w.cell? ⟨g,off+i*3+1,none⟩=some (.int .i64 x.line)∧w.cell? ⟨g,off+i*3+2,none⟩=some (.string x.label):=by
 have h0:=h.cell hx (j:=0) (by decide)
 have h1:=h.cell hx (j:=1) (by decide)
 have h2:=h.cell hx (j:=2) (by decide)
 exact⟨h0,h1,h2⟩
theorem rx_poke {Z:Nat→Prop}{W:World}{b:Nat}{v:RV}{st:RSt}(R:RX Z W b v st){g off n cap:Nat}(hv:v.vc= .slice (some ⟨g,off,none⟩) n cap){i:Nat}{x:In}(hx:st.code[i]? =some x)(tg:Int):
  RX Z (W.setCell ⟨g,off+(i*2+1),none⟩ (.int .i64 tg)) b v {st with code:=st.code.set i {x with a:=tg}}∧RK b v W v (W.setCell ⟨g,off+(i*2+1),none⟩ (.int .i64 tg)):=by
 have hg:v.vc.ownBlock=some g:=by rw[hv];rfl
 have K:Keeps (fun j=>j=g) W (W.setCell ⟨g,off+(i*2+1),none⟩ (.int .i64 tg)):=Keeps.setCell (S:=fun j=>j=g) (p:=⟨g,off+(i*2+1),none⟩) (Keeps.refl _ _) (.inl rfl) _
 refine⟨⟨(K.block b (zlt R.h) (fun e=>(R.sep.c g hg).1 e.symm)).trans R.h,?_,R.consts.keep K (fun j h s=>h.1 (by subst s;exact .inr (.inr (.inl hg)))) (fun j hj s=>(R.sep.k j hj).2.2 (by subst s;exact hg)),R.names.keep K (fun j hj s=>(R.sep.n j hj).2.2.1 (by subst s;exact hg)),R.jumps.keep K (fun j hj s=>(R.sep.j j hj).2.2.1 (by subst s;exact hg)),R.pl,fun m hm=>(R.labels m hm).keep K (fun s=>(R.sep.c g hg).2 (by subst s;exact hm)),R.sep⟩,K.mono (fun j _ e=>by subst e;exact .inr (.inr (.inl hg))),fun j h=>.inl h,rfl⟩
 have:=R.code
 rw[hv]at this⊢
 exact this.setOne hx (j:=1) (u:=.int .i64 tg) (by decide) rfl
theorem five (w:World)(o0 o1 o2 o3 o4:Obj):
  (((((w.alloc o0).alloc o1).alloc o2).alloc o3).alloc o4).heap[w.heap.size]? =some o0∧(((((w.alloc o0).alloc o1).alloc o2).alloc o3).alloc o4).heap[w.heap.size+1]? =some o1∧(((((w.alloc o0).alloc o1).alloc o2).alloc o3).alloc o4).heap[w.heap.size+1+1]? =some o2∧(((((w.alloc o0).alloc o1).alloc o2).alloc o3).alloc o4).heap[w.heap.size+1+1+1]? =some o3∧(((((w.alloc o0).alloc o1).alloc o2).alloc o3).alloc o4).heap[w.heap.size+4]? =some o4:=by
 have s1:(w.alloc o0).heap.size=w.heap.size+1:=by simp
 have s2:((w.alloc o0).alloc o1).heap.size=w.heap.size+1+1:=by simp
 have s3:(((w.alloc o0).alloc o1).alloc o2).heap.size=w.heap.size+1+1+1:=by simp
 have s4:((((w.alloc o0).alloc o1).alloc o2).alloc o3).heap.size=w.heap.size+4:=by simp
 have n0:=heap_alloc_new w o0
 have n1:=heap_alloc_new (w.alloc o0) o1
 have n2:=heap_alloc_new ((w.alloc o0).alloc o1) o2
 have n3:=heap_alloc_new (((w.alloc o0).alloc o1).alloc o2) o3
 have n4:=heap_alloc_new ((((w.alloc o0).alloc o1).alloc o2).alloc o3) o4
 rw[s1]at n1
 rw[s2]at n2
 rw[s3]at n3
 rw[s4]at n4
 refine⟨?_,?_,?_,?_,n4⟩
 ·exact(Below.heap_alloc _ _ _ (by omega)).trans ((Below.heap_alloc _ _ _ (by omega)).trans ((Below.heap_alloc _ _ _ (by omega)).trans ((Below.heap_alloc _ _ _ (by omega)).trans n0)))
 ·exact(Below.heap_alloc _ _ _ (by omega)).trans ((Below.heap_alloc _ _ _ (by omega)).trans ((Below.heap_alloc _ _ _ (by omega)).trans n1))
 ·exact(Below.heap_alloc _ _ _ (by omega)).trans ((Below.heap_alloc _ _ _ (by omega)).trans n2)
 ·exact(Below.heap_alloc _ _ _ (by omega)).trans n3
structure LineLaw (N:Nat)(x:ByteArray):Prop where
 run:∀{Z:Nat→Prop} (b:Nat) (v:RV) (st:RSt) (n:Int) (W:World),RX Z W b v st→Gl Tryz.prog N W→(∀j,W.heap.size≤j→Z j)→∀m,v.mb=some m→st.consts.length≤65536→st.names.length≤65536→st.jumps.length≤65536→st.code.length≤65536→0≤st.places∧st.places≤100→Calls Tryz.prog 35 #[.pointer (some ⟨b,0,none⟩),.int .i64 n,.string x] W (LPost Z W b v (lineL n x st))
 small:∀(line:Int) (n:Nat) (st:RSt),n≤65536→Small n st→Small (n+1) (lineL line x st).2
theorem textL_size {s:ByteArray}:∀x∈textL s,x.size≤s.size:=by
 have htl:(⟨(Lib.trimSuffix s.data.toList [10]).toArray⟩:ByteArray).size≤s.size:=by
  have e2:(⟨(Lib.trimSuffix s.data.toList [10]).toArray⟩:ByteArray).size=(Lib.trimSuffix s.data.toList [10]).length:=by show(Lib.trimSuffix s.data.toList [10]).toArray.size=_;simp
  rw[e2]
  unfold Lib.trimSuffix
  split<;>simp
 exact fun x hx=>splitB_size ⟨#[10]⟩ s.size _ _ htl x hx
theorem asm_lines {N:Nat}(s:ByteArray)(w:World)(G:Gl Tryz.prog N w)(h:s.size≤65536)(hn:Lib.hasSuffix s.data.toList [10]=true)(LW:∀x∈textL s,LineLaw N x)(q:(Int×Int)×RSt)(hq:linesR (textL s) 0 st0=q)(r:Img×Int×Int)
  (hr:(bif q.1.2 !=0 then(noImg,q.1.1,q.1.2)else
    let j:=jumpsR q.2.labels q.2.jumps q.2.code
    bif j.1.2 !=0 then(noImg,j.1.1,j.1.2)else
    let p:Img:=⟨j.2,q.2.consts,q.2.names,q.2.places⟩
    bif imgL p !=0 then(noImg,0,imgL p)else(p,0,0))=r):
  Calls Tryz.prog 10 #[.string s] w (APost w r):=by
 have e1:¬(65536:Int)<s.size:=by omega
 obtain⟨t,ht⟩:∃t:ByteArray,t=⟨(Lib.trimSuffix s.data.toList [10]).toArray⟩:=⟨_,rfl⟩
 have htl:t.size≤s.size:=by
  have e2:t.size=(Lib.trimSuffix s.data.toList [10]).length:=by rw[ht];show(Lib.trimSuffix s.data.toList [10]).toArray.size=_;simp
  rw[e2]
  unfold Lib.trimSuffix
  split<;>simp
 have CSF:=zhd (show∀W,Calls Tryz.prog 33 #[.string s,.string ⟨#[10]⟩] W (fun e w'=>e= .returned (.tuple #[.string t,.bool true])∧w'=W)from fun W=>(Any.strings_CutSuffix Tryz.lays104 s ⟨#[10]⟩ W (by omega)).mono fun e w' ⟨j1,j2⟩=>⟨by rw[j1,show(⟨#[10]⟩:ByteArray).data.toList=[10]from rfl,hn,ht],j2⟩)
 have hi9:(Tryz.prog.info? 9).map (fun i=>(i.zero,i.size,i.bytes))=some (some (.string ByteArray.empty),1,16):=by kernel_rfl
 have SPL:=zhd (show∀W,Gl Tryz.prog N W→Calls Tryz.prog 34 #[.string t,.string ⟨#[10]⟩] W (fun e w'=>e= .returned (.slice (some ⟨W.heap.size,0,none⟩) (textL s).length (textL s).length)∧w'=W.alloc (.cells ((textL s).map Value.string).toArray 9))from fun W GW=>by
  obtain⟨m,hm⟩:=GW.m
  have hlen:(textL s).length=Lib.countB t ⟨#[10]⟩+1:=by
   unfold textL
   rw[←ht]
   exact Lib.splitB_all ⟨#[10]⟩ (by decide) 0 _ t rfl
  refine(Any.strings_Split Tryz.lays146 hi9 t ⟨#[10]⟩ m W (by omega) hm (by decide)).mono fun e w' ⟨j1,j2⟩=>⟨by rw[j1,hlen],?_⟩
  rw[j2]
  unfold textL
  rw[←ht]
  rfl)
 have hlen:(textL s).length≤65537:=by
  have e2:(textL s).length=Lib.countB t ⟨#[10]⟩+1:=by
   unfold textL
   rw[←ht]
   exact Lib.splitB_all ⟨#[10]⟩ (by decide) 0 _ t rfl
  have:=Lib.countB_le ⟨#[10]⟩ (by decide) t.size t (Nat.le_refl _)
  omega
 have hls:=zhd LW
 have HQ:=zh2 hq hr
 clear hq hr hi9 ht hn LW
 generalize textL s=ls at*
 have HN:=zhd G.n
 have hmm:= @run_makeMap Tryz.prog
 go_enter Tryz.func10,Tryz.ntmps10
 go_wp2_with fail
 refine(CSF.out _).mono ?_
 rintro e w1 ⟨rfl,rfl⟩
 go_wp2_with fail
 refine(SPL.out _ ((((G.alloc _).alloc _).alloc _).alloc _)).mono ?_
 rintro e w1 ⟨rfl,rfl⟩
 obtain⟨W2,hW2⟩:∃W2,W2=(((((w.alloc (.cells #[.slice none 0 0,.slice none 0 0,.slice none 0 0,.int .i64 0] 27)).alloc (.cells #[.int .i64 0,.int .i64 0] 30)).alloc (.map #[] 0)).alloc (.cells #[.slice none 0 0,.slice none 0 0,.slice none 0 0,.int .i64 0,.map (some (w.heap.size+1+1)),.slice none 0 0] 85)).alloc (.cells (ls.map Value.string).toArray 9)):=⟨_,rfl⟩
 have sz2:W2.heap.size=w.heap.size+5:=by rw[hW2];simp
 have B2:Below w.heap.size w W2:=by
  rw[hW2]
  exact((((zal).alloc (by simp) _).alloc (by simp;omega) _).alloc (by simp;omega) _).alloc (by simp;omega) _
 obtain⟨c0,c1,c2,c3,c4⟩:=hW2▸five w (.cells #[.slice none 0 0,.slice none 0 0,.slice none 0 0,.int .i64 0] 27) (.cells #[.int .i64 0,.int .i64 0] 30) (.map #[] 0) (.cells #[.slice none 0 0,.slice none 0 0,.slice none 0 0,.int .i64 0,.map (some (w.heap.size+1+1)),.slice none 0 0] 85) (.cells (ls.map Value.string).toArray 9)
 have e4:((((w.alloc (.cells #[.slice none 0 0,.slice none 0 0,.slice none 0 0,.int .i64 0] 27)).alloc (.cells #[.int .i64 0,.int .i64 0] 30)).alloc (.map #[] 0)).alloc (.cells #[.slice none 0 0,.slice none 0 0,.slice none 0 0,.int .i64 0,.map (some (w.heap.size+1+1)),.slice none 0 0] 85)).heap.size=w.heap.size+4:=by simp
 rw[←hW2,e4]
 have RX0:=rx_new (Z:=fun j=>w.heap.size+5≤j) c3 c2
 have RL:RowAt W2 9 (.slice (some ⟨w.heap.size+4,0,none⟩) ls.length ls.length) ls:=RowAt.made c4 (by rw[List.toList_toArray];exact map_enc ls) rfl (by simp only[maxLen];omega)
 have G2:=G.below B2
 have H2:=zh7 c0 c1 RX0 RL B2 G2 sz2
 have HC4:=zhd c4
 clear c0 c1 c2 c3 c4 RX0 RL B2 G2 sz2 hW2 e4 G
 go_wp2_with fail
 go_loopg [32] (ls.length) (fun gk v32 wr=>PLine (fun j=>w.heap.size+5≤j) W2 (w.heap.size+1+1+1) (w.heap.size+1+1) ls q gk v32 wr)
 case atStart=>exact⟨0,st0,v0 _,rfl,Nat.zero_le _,rfl,H2.out.2.2.1,rfl,small0,HQ.out.1,RK.refl _ _ _⟩
 case round=>
  obtain⟨i,st,v,rfl,hi,hgk,hR,hmb,hsm,hlin,hK⟩:=hrel
  by_cases hin:i<ls.length
  ·obtain⟨x,hx⟩:=elem_at hin
   have hdr:ls.drop i=x::ls.drop (i+1):=by
    rw[List.drop_eq_getElem_cons (zge hx).1,(zge hx).2]
   rw[hdr,linesR]at hlin
   have hxs:=hls.out x (zmg hx)
   have hNW:N≤w.heap.size:=by have:=H2.out.2.2.2.2.2.1;have:=HN.out;omega
   have RLr:=H2.out.2.2.2.1.keep hK.1 (fun g hg e=>by
    have hg':w.heap.size+4=g:=Option.some.inj hg
    have:=ro_v0 e
    omega)
   have Gr:Gl Tryz.prog N wr:=H2.out.2.2.2.2.2.1.keep hK.1 (fun j hj=>by have:=ro_v0 hj;omega)
   have hcx:wr.cell? ⟨w.heap.size+4,i,none⟩=some (.string x):=by
    have hb4:=(hK.1.block (w.heap.size+4) (by have:=H2.out.2.2.2.2.2.2;omega) (fun e=>by have:=ro_v0 e;omega)).trans HC4.out
    rw[zch hb4]
    simp[hx]
   have szr:w.heap.size+5≤wr.heap.size:=by have:=hK.1.size;have:=H2.out.2.2.2.2.2.2;omega
   have LA:=zhd (hxs.run (w.heap.size+1+1+1) v st ((i:Int)+1) wr hR Gr (fun j hj=>by omega) (w.heap.size+1+1) hmb (by have:=hsm.consts;omega) (by have:=hsm.names;omega) (by have:=hsm.jumps;omega) (by have:=hsm.code;omega) ⟨hsm.p0,hsm.p1⟩)
   have HS:=zhd (hxs.small ((i:Int)+1) i st (by omega) hsm)
   generalize lineL ((i:Int)+1) x st=lr at*
   have HX:=zh5 hlin hK hgk szr RLr
   have hw1:IntKind.i64.wrap ((i:Int)+1)=(i:Int)+1:=IntWalk.i64_in _ (by omega)
   clear hlin hK hgk szr hdr hsm
   go_wp2_with fail
   refine LA.out.mono ?_
   rintro e w5 ⟨v5,rfl,H5⟩
   cases hz:(lr.1 !=0)with
   |true=>
    have hq:(((i:Int)+1,lr.1),lr.2)=q:=by have:=HX.out.1;rw[hz]at this;exact this
    have hr:=HQ.out.2
    rw[←hq]at hr
    dsimp only at hr
    rw[hz]at hr
    simp only[cond_true]at hr
    have HR:=zhd hr
    have K5:=HX.out.2.1.1.trans H5.out.2.1 (fun j hj e=>(HX.out.2.1.2.1 j e).resolve_right (by omega))
    have sz2:=H2.out.2.2.2.2.2.2
    have b0:=(K5.block w.heap.size (by omega) (fun e=>by have:=ro_v0 e;omega)).trans H2.out.1
    have b1:=(K5.block (w.heap.size+1) (by omega) (fun e=>by have:=ro_v0 e;omega)).trans H2.out.2.1
    have q0:∀o,w5.cell? ⟨w.heap.size,o,none⟩=(#[.slice none 0 0,.slice none 0 0,.slice none 0 0,.int .i64 0]:Array Value)[o]? :=fun o=>by rw[zch b0]
    have q1:∀o,w5.cell? ⟨w.heap.size+1,o,none⟩=(#[.int .i64 0,.int .i64 0]:Array Value)[o]? :=fun o=>by rw[zch b1]
    have p0:=q0 0
    have p1:=q0 1
    have p2:=q0 2
    have p3:=q0 3
    have p4:=q1 0
    have p5:=q1 1
    simp only[List.getElem?_toArray,List.getElem?_cons_zero,List.getElem?_cons_succ]at p0 p1 p2 p3 p4 p5
    have l5:w.heap.size+5≤w5.heap.size:=by have:=K5.size;omega
    have l0:w.heap.size<w5.heap.size:=by omega
    have l1:w.heap.size+1<w5.heap.size:=by omega
    have BB:=H2.out.2.2.2.2.1.trans (keeps_six (N:=w.heap.size) K5 (fun j e=>by have:=ro_v0 e;omega) (by omega) w.heap.size w.heap.size w.heap.size w.heap.size (w.heap.size+1) (w.heap.size+1) 0 1 2 3 0 1 (.slice none 0 0) (.slice none 0 0) (.slice none 0 0) (.int .i64 0) (.int .i64 ((i:Int)+1)) (.int .i64 lr.1) (by omega) (by omega) (by omega) (by omega) (by omega) (by omega))
    replace BB:=zhd BB
    have z0:=zfr b0 0
    have z1:=zfr b0 1
    have z2:=zfr b0 2
    have z3:=zfr b0 3
    have y0:=zfr b1 0
    have y1:=zfr b1 1
    clear hq hr K5 b0 b1 q0 q1 sz2
    go_wp2_with fail
    exact bodyPost_ret (v:=.tuple #[.agg #[.slice none 0 0,.slice none 0 0,.slice none 0 0,.int .i64 0],.agg #[.int .i64 ((i:Int)+1),.int .i64 lr.1]]) (by simp only[results,Tryz.results10];go_simp) rfl ⟨⟨none,0,0,none,0,0,none,0,0,0⟩,by rw[←HR.out],by rw[←HR.out];exact iat_none _ _,BB.out⟩
   |false=>
    have hl:=HX.out.1
    rw[hz]at hl
    simp only[cond_false]at hl
    have HC:=zhd hl
    clear hl
    go_wp2_with fail
    go_roundg (ls.length - (i+1))
    case measure=>have:=HX.out.2.2.1;omega
    case rel=>exact⟨i+1,lr.2,v5,by simp,by omega,rfl,H5.out.1,H5.out.2.2.2.trans hmb,HS.out,HC.out,HX.out.2.1.trans H5.out.2⟩
  ·obtain rfl:i=ls.length:=by omega
   have hdn:ls.drop ls.length=[]:=List.drop_eq_nil_of_le (Nat.le_refl _)
   rw[hdn,linesR]at hlin
   have hr:=HQ.out.2
   rw[←hlin]at hr
   simp only[bne_self_eq_false,cond_false]at hr
   have HR:=zhd hr
   have q5:=zca hR.h 5 rfl
   have szr:w.heap.size+5≤wr.heap.size:=by have:=hK.1.size;have:=H2.out.2.2.2.2.2.2;omega
   have l3:w.heap.size+1+1+1<wr.heap.size:=by omega
   obtain⟨ja,jc,hvj⟩:=hR.jumps.slice
   rw[hvj]at q5
   have HAt:=zhd (show AtOk st from by
    have h0:=linesR_at ls 0 st0 (fun j hj=>by cases hj) (by rw[HQ.out.1,←hlin])
    rw[HQ.out.1,←hlin]at h0
    exact h0)
   have HX:=zh4 hR hmb hsm hK
   obtain⟨wm,hwm⟩:∃wm,wm=wr:=⟨_,rfl⟩
   rw[←hwm]at q5 szr l3 HX⊢
   clear hr hlin hdn hR hmb hsm hK hwm
   go_wp2_with fail
   go_loopg [54] (st.jumps.length) (fun gk v54 wz=>JRel (fun j=>w.heap.size+5≤j) wm (w.heap.size+1+1+1) v st (jumpsR st.labels st.jumps st.code) gk v54 wz)
   case atStart=>exact⟨0,st.code,rfl,Nat.zero_le _,rfl,HX.out.1,rfl,rfl,RK.refl _ _ _⟩
   case round=>
    obtain⟨k,code,rfl,hk,hgk,hR,hcl,hjq,hK⟩:=hrel
    by_cases hkn:k<st.jumps.length
    ·obtain⟨x,hx⟩:=elem_at hkn
     have hdr:st.jumps.drop k=x::st.jumps.drop (k+1):=by
      rw[List.drop_eq_getElem_cons (zge hx).1,(zge hx).2]
     rw[hdr,jumpsR]at hjq
     have RJ:=hR.jumps
     rw[hvj]at RJ
     obtain⟨jg,joff,hja,hjl⟩:=RJ.addr hx
     subst hja
     obtain⟨x0,x1,x2⟩:=row_jp RJ hx
     have qq:∀o,wr.cell? ⟨w.heap.size+1+1+1,o,none⟩=(#[v.vc,v.vk,v.vn,.int .i64 v.pl,.map v.mb,v.vj]:Array Value)[o]? :=fun o=>by rw[zch hR.h]
     have q0:=qq 0
     have q4:=qq 4
     simp only[List.getElem?_toArray,List.getElem?_cons_zero,List.getElem?_cons_succ]at q0 q4
     rw[HX.out.2.1]at q4
     have lz:w.heap.size+1+1+1<wr.heap.size:=zlt hR.h
     obtain⟨ca,cc,hvc⟩:=hR.code.slice
     rw[hvc]at q0
     have hlk:=look_lab (hR.labels _ HX.out.2.1) x.label
     have hlt2:w.heap.size+1+1<wr.heap.size:=by omega
     clear qq
     obtain⟨y,hy⟩:∃y,MapTy.get st.labels x.label=y:=⟨_,rfl⟩
     rw[hy]at hlk hjq
     have HG:=zh4 hcl hgk hR hK
     clear hcl hgk hR hK hdr
     cases y with
     |none=>
      simp only[Option.getD_none,Option.isSome_none]at hlk hjq
      have hr:=HR.out
      rw[←hjq]at hr
      simp only[show((120:Int)!=0)=true from rfl,cond_true]at hr
      have HR2:=zhd hr
      have K5:=(HX.out.2.2.2.trans HG.out.2.2.2).1
      have HQQ:=zh2 hjq K5
      clear hr hjq K5
      go_wp2_with fail
      obtain⟨w6,hw6⟩:∃w6,w6=wr.alloc (.cells #[.int .i64 x.at_,.int .i64 x.line,.string x.label] 91):=⟨_,rfl⟩
      have B6:=zba hw6
      have j1:w6.cell? ⟨wr.heap.size,1,none⟩=some (.int .i64 x.line):=by rw[hw6,zch (heap_alloc_new _ _)];rfl
      have l6:w6.heap.size=wr.heap.size+1:=by rw[hw6];simp
      have K6:Keeps (fun j=>w.heap.size+2≤j) wr w6:=Keeps.mono (zkb B6 (S:=fun _=>False)) (fun _ _ f=>f.elim)
      rw[←hw6]
      have sz2:=H2.out.2.2.2.2.2.2
      have b0:=(B6.block _ (by omega)).trans ((HQQ.out.2.block w.heap.size (by omega) (fun e=>by have:=ro_v0 e;omega)).trans H2.out.1)
      have b1:=(B6.block _ (by omega)).trans ((HQQ.out.2.block (w.heap.size+1) (by omega) (fun e=>by have:=ro_v0 e;omega)).trans H2.out.2.1)
      have q0':∀o,w6.cell? ⟨w.heap.size,o,none⟩=(#[.slice none 0 0,.slice none 0 0,.slice none 0 0,.int .i64 0]:Array Value)[o]? :=fun o=>by rw[zch b0]
      have q1':∀o,w6.cell? ⟨w.heap.size+1,o,none⟩=(#[.int .i64 0,.int .i64 0]:Array Value)[o]? :=fun o=>by rw[zch b1]
      have p0:=q0' 0
      have p1:=q0' 1
      have p2:=q0' 2
      have p3:=q0' 3
      have p4:=q1' 0
      have p5:=q1' 1
      simp only[List.getElem?_toArray,List.getElem?_cons_zero,List.getElem?_cons_succ]at p0 p1 p2 p3 p4 p5
      have z0:=zfr b0 0
      have z1:=zfr b0 1
      have z2:=zfr b0 2
      have z3:=zfr b0 3
      have y0:=zfr b1 0
      have y1:=zfr b1 1
      have l0:w.heap.size<w6.heap.size:=by omega
      have l1:w.heap.size+1<w6.heap.size:=by omega
      have l7:wr.heap.size<w6.heap.size:=by omega
      have d1:¬wr.heap.size=w.heap.size:=by omega
      have d2:¬wr.heap.size=w.heap.size+1:=by omega
      have H6:=zh3 B6 l6 K6
      have K7:=HQQ.out.2.trans (T:=fun j=>wr.heap.size≤j) (Keeps.mono (zkb B6 (S:=fun _=>False)) (fun _ _ f=>f.elim)) (fun j hj e=>by have:=HQQ.out.2.size;omega)
      have BB:=zhd (H2.out.2.2.2.2.1.trans (keeps_six (N:=w.heap.size) K7 (fun j e=>by have:=ro_v0 e;omega) (by omega) w.heap.size w.heap.size w.heap.size w.heap.size (w.heap.size+1) (w.heap.size+1) 0 1 2 3 0 1 (.slice none 0 0) (.slice none 0 0) (.slice none 0 0) (.int .i64 0) (.int .i64 x.line) (.int .i64 120) (by omega) (by omega) (by omega) (by omega) (by omega) (by omega)))
      clear hw6 B6 l6 K6 K7 b0 b1 q0' q1' sz2
      go_region
      go_wp2_with fail
      exact bodyPost_ret (v:=.tuple #[.agg #[.slice none 0 0,.slice none 0 0,.slice none 0 0,.int .i64 0],.agg #[.int .i64 x.line,.int .i64 120]]) (by simp only[results,Tryz.results10];go_simp) rfl ⟨⟨none,0,0,none,0,0,none,0,0,0⟩,by rw[←HR2.out],by rw[←HR2.out];exact iat_none _ _,BB.out.drew⟩
     |some tg=>
      simp only[Option.getD_some,Option.isSome_some]at hlk hjq
      cases hge:(tg==(code.length:Int))with
      |true=>
       rw[hge]at hjq
       simp only[cond_true]at hjq
       have hr:=HR.out
       rw[←hjq]at hr
       simp only[show((120:Int)!=0)=true from rfl,cond_true]at hr
       have HR2:=zhd hr
       have K5:=(HX.out.2.2.2.trans HG.out.2.2.2).1
       have HQQ:=zh2 hjq K5
       clear hr hjq K5
       go_wp2_with fail
       obtain⟨w6,hw6⟩:∃w6,w6=wr.alloc (.cells #[.int .i64 x.at_,.int .i64 x.line,.string x.label] 91):=⟨_,rfl⟩
       have B6:=zba hw6
       have j1:w6.cell? ⟨wr.heap.size,1,none⟩=some (.int .i64 x.line):=by rw[hw6,zch (heap_alloc_new _ _)];rfl
       have l6:w6.heap.size=wr.heap.size+1:=by rw[hw6];simp
       have K6:Keeps (fun j=>w.heap.size+2≤j) wr w6:=Keeps.mono (zkb B6 (S:=fun _=>False)) (fun _ _ f=>f.elim)
       rw[←hw6]
       have sz2:=H2.out.2.2.2.2.2.2
       have b0:=(B6.block _ (by omega)).trans ((HQQ.out.2.block w.heap.size (by omega) (fun e=>by have:=ro_v0 e;omega)).trans H2.out.1)
       have b1:=(B6.block _ (by omega)).trans ((HQQ.out.2.block (w.heap.size+1) (by omega) (fun e=>by have:=ro_v0 e;omega)).trans H2.out.2.1)
       have q0':∀o,w6.cell? ⟨w.heap.size,o,none⟩=(#[.slice none 0 0,.slice none 0 0,.slice none 0 0,.int .i64 0]:Array Value)[o]? :=fun o=>by rw[zch b0]
       have q1':∀o,w6.cell? ⟨w.heap.size+1,o,none⟩=(#[.int .i64 0,.int .i64 0]:Array Value)[o]? :=fun o=>by rw[zch b1]
       have p0:=q0' 0
       have p1:=q0' 1
       have p2:=q0' 2
       have p3:=q0' 3
       have p4:=q1' 0
       have p5:=q1' 1
       simp only[List.getElem?_toArray,List.getElem?_cons_zero,List.getElem?_cons_succ]at p0 p1 p2 p3 p4 p5
       have z0:=zfr b0 0
       have z1:=zfr b0 1
       have z2:=zfr b0 2
       have z3:=zfr b0 3
       have y0:=zfr b1 0
       have y1:=zfr b1 1
       have l0:w.heap.size<w6.heap.size:=by omega
       have l1:w.heap.size+1<w6.heap.size:=by omega
       have l7:wr.heap.size<w6.heap.size:=by omega
       have d1:¬wr.heap.size=w.heap.size:=by omega
       have d2:¬wr.heap.size=w.heap.size+1:=by omega
       have H6:=zh3 B6 l6 K6
       have K7:=HQQ.out.2.trans (T:=fun j=>wr.heap.size≤j) (Keeps.mono (zkb B6 (S:=fun _=>False)) (fun _ _ f=>f.elim)) (fun j hj e=>by have:=HQQ.out.2.size;omega)
       have BB:=zhd (H2.out.2.2.2.2.1.trans (keeps_six (N:=w.heap.size) K7 (fun j e=>by have:=ro_v0 e;omega) (by omega) w.heap.size w.heap.size w.heap.size w.heap.size (w.heap.size+1) (w.heap.size+1) 0 1 2 3 0 1 (.slice none 0 0) (.slice none 0 0) (.slice none 0 0) (.int .i64 0) (.int .i64 x.line) (.int .i64 120) (by omega) (by omega) (by omega) (by omega) (by omega) (by omega)))
       clear hw6 B6 l6 K6 K7 b0 b1 q0' q1' sz2
       go_region
       go_wp2_with fail
       exact bodyPost_ret (v:=.tuple #[.agg #[.slice none 0 0,.slice none 0 0,.slice none 0 0,.int .i64 0],.agg #[.int .i64 x.line,.int .i64 120]]) (by simp only[results,Tryz.results10];go_simp) rfl ⟨⟨none,0,0,none,0,0,none,0,0,0⟩,by rw[←HR2.out],by rw[←HR2.out];exact iat_none _ _,BB.out.drew⟩
      |false=>
       rw[hge]at hjq
       simp only[cond_false]at hjq
       have hat:=HAt.out x (zmg hx)
       rw[←HG.out.1]at hat
       obtain⟨c,hc⟩:=elem_at hat.2
       rw[setA_set hc]at hjq
       have RC:=HG.out.2.2.1.code
       dsimp only at RC
       rw[hvc]at RC
       obtain⟨cg,coff,hca,hcl2⟩:=RC.addr hc
       subst hca
       obtain⟨i,hi⟩:∃i:Nat,i=x.at_.toNat:=⟨_,rfl⟩
       rw[←hi]at hc hjq
       have hai:x.at_=(i:Int):=by omega
       rw[hai]at x0
       have hilt:i<code.length:=by omega
       have u1:=RC.cell hc (j:=1) (by decide)
       have u0:=RC.cell hc (j:=0) (by decide)
       rw[show coff+(i*sz In+1)=coff+i*2+1 from rfl]at u1
       rw[show coff+(i*sz In+0)=coff+i*2 from rfl]at u0
       have fz:=RC.frozen (coff+i*2+1)
       have fz0:=RC.frozen (coff+i*2)
       have lcg:cg<wr.heap.size:=RC.lt rfl
       have PK:=zhd (rx_poke HG.out.2.2.1 hvc hc tg)
       have hwk:IntKind.i64.wrap ((k:Int)+1)=(k:Int)+1:=IntWalk.i64_in _ (by have:=HX.out.2.2.1.jumps;omega)
       rw[show coff+(i*2+1)=coff+i*2+1 from rfl]at PK
       have HJ:=zh2 hjq hai
       clear hjq hai RC hat hi
       go_wp2_with fail
       go_roundg (st.jumps.length - (k+1))
       case measure=>have:=HG.out.2.1;omega
       case rel=>exact⟨k+1,code.set i {c with a:=tg},by simp,by omega,rfl,PK.out.1.ext ((Below.refl _ _).alloc (by simp) _),by rw[List.length_set];exact HG.out.1,HJ.out.1,HG.out.2.2.2.trans (PK.out.2.trans (RK.ext ((Below.refl _ _).alloc (by simp) _)))⟩
    ·obtain rfl:k=st.jumps.length:=by omega
     have hdn:st.jumps.drop st.jumps.length=[]:=List.drop_eq_nil_of_le (Nat.le_refl _)
     rw[hdn,jumpsR]at hjq
     have hr:=HR.out
     rw[←hjq]at hr
     simp only[bne_self_eq_false,cond_false]at hr
     have qq:∀o,wr.cell? ⟨w.heap.size+1+1+1,o,none⟩=(#[v.vc,v.vk,v.vn,.int .i64 v.pl,.map v.mb,v.vj]:Array Value)[o]? :=fun o=>by rw[zch hR.h]
     have q0:=qq 0
     have q1:=qq 1
     have q2:=qq 2
     have q3:=qq 3
     simp only[List.getElem?_toArray,List.getElem?_cons_zero,List.getElem?_cons_succ]at q0 q1 q2 q3
     have lz:w.heap.size+1+1+1<wr.heap.size:=zlt hR.h
     obtain⟨ca,cc,hvc⟩:=hR.code.slice
     obtain⟨ka,kc,hvk⟩:=hR.consts.slice
     obtain⟨na,nc,hvn⟩:=hR.names.slice
     have szW:=H2.out.2.2.2.2.2.2
     have hge:∀j,RO v (w.heap.size+1+1+1) j→w.heap.size+2≤j:=fun j e=>by
      rcases HX.out.2.2.2.2.1 j e with h|h
      ·have:=ro_v0 h
       omega
      ·omega
     have hI:IAt (fun j=>w.heap.size+2≤j) wr ⟨ca,code.length,cc,ka,st.consts.length,kc,na,st.names.length,nc,v.pl⟩ ⟨code,st.consts,st.names,st.places⟩:=
      ⟨by rw[←hvc];exact RdF.of_row hR.code (fun g h=>hge g (.inr (.inr (.inl h)))),by rw[←hvk];exact VRow.vf hR.consts (fun g h=>by have:=h.2;show w.heap.size+2≤g;omega) (fun g h=>hge g (.inr (.inr (.inr (.inl h))))),by rw[←hvn];exact RdF.of_row hR.names (fun g h=>hge g (.inr (.inr (.inr (.inr (.inl h)))))),hR.pl⟩
     rw[hvc]at q0
     rw[hvk]at q1
     rw[hvn]at q2
     obtain⟨ir,hir⟩:∃ir,imgL ⟨code,st.consts,st.names,st.places⟩=ir:=⟨_,rfl⟩
     rw[hir]at hr
     have IC:=zhd (fun W (hW:Below wr.heap.size wr W)=>imgcheck_any _ W _ _ (hI.keep (S:=fun _=>False) (zkb hW) (fun _ _ f=>f)) _ HX.out.2.2.1.wf hir)
     have K5:=(HX.out.2.2.2.trans hK).1
     have HQQ:=zh3 hr K5 hI
     clear hr K5 hI hge qq hvc hvk hvn hdn hjq hR hK hcl hgk hir szW
     generalize v.pl=vpl at*
     go_wp2_with fail
     refine(IC.out _ (zal)).mono ?_
     rintro e w6 ⟨rfl,hB5⟩
     have B6:Below wr.heap.size wr w6:=((Below.refl _ _).alloc (Nat.le_refl _) (.cells #[.slice ca code.length cc,.slice ka st.consts.length kc,.slice na st.names.length nc,.int .i64 vpl] 27)).trans (hB5.mono (by simp))
     have sz2:=H2.out.2.2.2.2.2.2
     have b0:=(B6.block _ (by omega)).trans ((HQQ.out.2.1.block w.heap.size (by omega) (fun e=>by have:=ro_v0 e;omega)).trans H2.out.1)
     have b1:=(B6.block _ (by omega)).trans ((HQQ.out.2.1.block (w.heap.size+1) (by omega) (fun e=>by have:=ro_v0 e;omega)).trans H2.out.2.1)
     have b2:=(hB5.block wr.heap.size (by simp)).trans (heap_alloc_new wr _)
     have q0':∀o,w6.cell? ⟨w.heap.size,o,none⟩=(#[.slice none 0 0,.slice none 0 0,.slice none 0 0,.int .i64 0]:Array Value)[o]? :=fun o=>by rw[zch b0]
     have q1':∀o,w6.cell? ⟨w.heap.size+1,o,none⟩=(#[.int .i64 0,.int .i64 0]:Array Value)[o]? :=fun o=>by rw[zch b1]
     have q2':∀o,w6.cell? ⟨wr.heap.size,o,none⟩=(#[.slice ca code.length cc,.slice ka st.consts.length kc,.slice na st.names.length nc,.int .i64 vpl]:Array Value)[o]? :=fun o=>by rw[zch b2]
     have p0:=q0' 0
     have p1:=q0' 1
     have p2:=q0' 2
     have p3:=q0' 3
     have p4:=q1' 0
     have p5:=q1' 1
     have p6:=q2' 0
     have p7:=q2' 1
     have p8:=q2' 2
     have p9:=q2' 3
     simp only[List.getElem?_toArray,List.getElem?_cons_zero,List.getElem?_cons_succ]at p0 p1 p2 p3 p4 p5 p6 p7 p8 p9
     have z0:=zfr b0 0
     have z1:=zfr b0 1
     have z2:=zfr b0 2
     have z3:=zfr b0 3
     have y0:=zfr b1 0
     have y1:=zfr b1 1
     have l6:wr.heap.size<w6.heap.size:=zlt b2
     have l0:w.heap.size<w6.heap.size:=by omega
     have l1:w.heap.size+1<w6.heap.size:=by omega
     have d1:¬wr.heap.size=w.heap.size:=by omega
     have d2:¬wr.heap.size=w.heap.size+1:=by omega
     have K7:=HQQ.out.2.1.trans (T:=fun j=>wr.heap.size≤j) (Keeps.mono (zkb B6 (S:=fun _=>False)) (fun _ _ f=>f.elim)) (fun j hj e=>by have:=HQQ.out.2.1.size;omega)
     have HK7:=zh3 K7 B6 sz2
     clear hB5 b0 b1 b2 q0' q1' q2' K7 B6 sz2 IC
     cases hz:(ir !=0)with
     |true=>
      have hr:=HQQ.out.1
      rw[hz]at hr
      simp only[cond_true]at hr
      have HR2:=zhd hr
      have BB:=zhd (H2.out.2.2.2.2.1.trans (keeps_six (N:=w.heap.size) HK7.out.1 (fun j e=>by have:=ro_v0 e;omega) (by have:=HK7.out.2.2;omega) w.heap.size w.heap.size w.heap.size w.heap.size (w.heap.size+1) (w.heap.size+1) 0 1 2 3 0 1 (.slice none 0 0) (.slice none 0 0) (.slice none 0 0) (.int .i64 0) (.int .i64 0) (.int .i64 ir) (by omega) (by omega) (by omega) (by omega) (by omega) (by omega)))
      clear hr
      go_wp2_with fail
      exact bodyPost_ret (v:=.tuple #[.agg #[.slice none 0 0,.slice none 0 0,.slice none 0 0,.int .i64 0],.agg #[.int .i64 0,.int .i64 ir]]) (by simp only[results,Tryz.results10];go_simp) rfl ⟨⟨none,0,0,none,0,0,none,0,0,0⟩,by rw[←HR2.out],by rw[←HR2.out];exact iat_none _ _,BB.out⟩
     |false=>
      have hr:=HQQ.out.1
      rw[hz]at hr
      simp only[cond_false]at hr
      have HR2:=zhd hr
      have BB:=zhd (H2.out.2.2.2.2.1.trans (keeps_six (N:=w.heap.size) HK7.out.1 (fun j e=>by have:=ro_v0 e;omega) (by have:=HK7.out.2.2;omega) w.heap.size w.heap.size w.heap.size w.heap.size (w.heap.size+1) (w.heap.size+1) 0 1 2 3 0 1 (.slice ca code.length cc) (.slice ka st.consts.length kc) (.slice na st.names.length nc) (.int .i64 vpl) (.int .i64 0) (.int .i64 0) (by omega) (by omega) (by omega) (by omega) (by omega) (by omega)))
      have KI:=zhd (((HQQ.out.2.2.keep (S:=fun _=>False) (zkb HK7.out.2.1) (fun _ _ f=>f)).keep (six_keeps w6 w.heap.size (w.heap.size+1) 0 1 2 3 0 1 (.slice ca code.length cc) (.slice ka st.consts.length kc) (.slice na st.names.length nc) (.int .i64 vpl) (.int .i64 0) (.int .i64 0)) (fun g h e=>by rcases e with e|e<;>omega)).mono (G:=fun j=>w.heap.size≤j) (fun g h _=>by show w.heap.size≤g;omega))
      clear hr
      go_wp2_with fail
      exact bodyPost_ret (v:=.tuple #[.agg #[.slice ca code.length cc,.slice ka st.consts.length kc,.slice na st.names.length nc,.int .i64 vpl],.agg #[.int .i64 0,.int .i64 0]]) (by simp only[results,Tryz.results10];go_simp) rfl ⟨⟨ca,code.length,cc,ka,st.consts.length,kc,na,st.names.length,nc,vpl⟩,by rw[←HR2.out],by rw[←HR2.out];exact KI.out,BB.out⟩
end Go.Proofs.YtakljipkaoahnaaGreatDoor
