/- Parts of the proof: what the functions and the plain laws give that later parts lean on. Conditions: none beyond those that each theorem names. -/
import Derived.Lib.Split
import Derived.Lib.ItoaLen
import Derived.Test.YtpagmlndgblhhaaGreatDoorR5
set_option maxRecDepth 100000
set_option maxHeartbeats 8000000
namespace Go.Proofs.YtpagmlndgblhhaaGreatDoor
open Go.RowKit Go.Own Go.Own.MapTy Go.Va Go.Sort
open Go.Own.Cells (sz enc)
def ycI:List ByteArray→Nat→RSt→(Int×Int)×RSt
 |[],_,st=>((0,0),st)
 |l::r,n,st=>bif (lineL ((n:Int)+1) l st).1 !=0 then(((n:Int)+1,(lineL ((n:Int)+1) l st).1),(lineL ((n:Int)+1) l st).2)else ycI r (n+1) (lineL ((n:Int)+1) l st).2
def yn5 (code:List In)(at_:Nat)(tg:Int):List In:=code.modify at_ (fun c=>{c with a:=tg})
def ydT (labels:List (ByteArray×Int)):List Jp→List In→(Int×Int)×List In
 |[],code=>((0,0),code)
 |j::r,code=>match MapTy.get labels j.label with
  |none=>((j.line,120),code)
  |some tg=>bif tg==code.length then((j.line,120),code)else ydT labels r (yn5 code j.at_.toNat tg)
def st0:RSt:=⟨[],[],[],0,[],[]⟩
def ye2:Img:=⟨[],[],[],0⟩
def textL (s:ByteArray):List ByteArray:=Lib.splitB ⟨#[10]⟩ 0 (Lib.countB ⟨(Lib.trimSuffix s.data.toList [10]).toArray⟩ ⟨#[10]⟩) ⟨(Lib.trimSuffix s.data.toList [10]).toArray⟩
def yor (s:ByteArray):Img×Int×Int:=
 bif decide (65536<s.size)then(ye2,0,2)else
 bif !(Lib.hasSuffix s.data.toList [10])then(ye2,0,8)else
 let q:=ycI (textL s) 0 st0
 bif q.1.2 !=0 then(ye2,q.1.1,q.1.2)else
 let j:=ydT q.2.labels q.2.jumps q.2.code
 bif j.1.2 !=0 then(ye2,j.1.1,j.1.2)else
 let p:Img:=⟨j.2,q.2.consts,q.2.names,q.2.places⟩
 bif imgL p !=0 then(ye2,0,imgL p)else(p,0,0)
structure Small (n:Nat)(st:RSt):Prop where
 code:st.code.length≤n
 consts:st.consts.length≤n
 names:st.names.length≤n
 jumps:st.jumps.length≤n
 p0:0≤st.places
 p1:st.places≤100
 wf:∀x∈st.consts,x.wf
 at_:∀j∈st.jumps,0≤j.at_∧j.at_.toNat<65537
theorem ylv {x:Val}{l l':List Val}{i:Nat}(h:yfh x l=(i,l')):l'.length≤l.length+1∧∀y∈l',y∈l∨y=x:=by
 unfold yfh at h;split at h
 ·cases h;exact⟨by omega,fun y hy=>.inl hy⟩
 ·cases h;exact⟨by simp,fun y hy=>by simpa using hy⟩
def ymS (st:RSt):Prop:=∀j∈st.jumps,0≤j.at_∧j.at_.toNat<st.code.length
theorem ykT {kind line:Int}{s:ByteArray}{st:RSt}(h:ymS st):∀j∈(operL kind line s st).2.2.jumps,0≤j.at_∧j.at_.toNat<st.code.length+1:=by
 have h0:∀j∈st.jumps,0≤j.at_∧j.at_.toNat<st.code.length+1:=fun j hj=>by have:=h j hj;omega
 unfold operL;split
 ·split<;>exact h0
 ·split
  ·split<;>exact h0
  ·split
   ·split
    ·intro j hj
     simp at hj;rcases hj with hj|rfl
     ·exact h0 j hj
     ·dsimp only;omega
    ·exact h0
   ·split
    ·exact h0
    ·dsimp only
     split<;>exact h0
theorem yk4 {line:Int}{s:ByteArray}{st:RSt}(h:ymS st):(lineL line s st).1=0→ymS (lineL line s st).2:=by
 unfold lineL;split
 ·split
  ·exact fun _=>h
  ·exact fun _=>h
 ·split
  ·exact fun _=>h
  ·split
   ·exact fun _=>h
   ·rename_i op _
    split
    ·exact fun _=>h
    ·split
     ·have h1:=ykT (kind:=(ofL op).1.operand) (line:=line) (s:=ycL s) h
      have h2:=yin (ofL op).1.operand line (ycL s) st;generalize operL (ofL op).1.operand line (ycL s) st=q at h1 h2;split
      ·rename_i hne
       exact fun e=>absurd e hne
      ·intro _ j hj
       have:=h1 j hj;simp only[znk,List.length_cons,List.length_nil,h2];omega
     ·intro _ j hj
      have:=h j hj;simp only[znk,List.length_cons,List.length_nil];omega
theorem yfH:∀(ls:List ByteArray) (n:Nat) (st:RSt),ymS st→(ycI ls n st).1.2=0→ymS (ycI ls n st).2
 |[],_,_,h,_=>h
 |l::r,n,st,h,hz=>by
  rw[ycI]at hz⊢;cases hb:((lineL ((n:Int)+1) l st).1 !=0)with
  |true=>
   rw[hb]at hz;simp only[znm]at hz;rw[hz]at hb;cases hb
  |false=>
   rw[hb]at hz;simp only[znl]at hz⊢;exact yfH r _ _ (yk4 h (by simpa using hb)) hz
theorem ykH {code:List In}{i:Nat}{x:In}(hx:code[i]? =some x)(tg:Int):yn5 code i tg=code.set i {x with a:=tg}:=by
 unfold yn5;apply List.ext_getElem?;intro k;rw[List.getElem?_modify,List.getElem?_set];by_cases h:i=k
 ·subst h
  obtain⟨h1,h2⟩:=zge hx;simp[h1,h2]
 ·simp[h]
def ynR (w:World)(r:Img×Int×Int)(e:Ending)(w':World):Prop:=
 ∃i:IC,e= .returned (.tuple #[.agg #[.slice i.ca i.cn i.cc,.slice i.ka i.kn i.kc,.slice i.na i.nn i.nc,.int .i64 i.pl],.agg #[.int .i64 r.2.1,.int .i64 r.2.2]])∧IAt (fun j=>w.heap.size≤j) w' i r.1∧Below w.heap.size w w'
theorem ydn (F:Nat→Prop)(w:World):IAt F w ⟨none,0,0,none,0,0,none,0,0,0⟩ ye2:=⟨RdF.nil _ _,VF.nil _ _,RdF.nil _ _,rfl⟩
def v0 (mb:Nat):RV:=⟨.slice none 0 0,.slice none 0 0,.slice none 0 0,.slice none 0 0,0,some mb⟩
theorem ym0 {Z:Nat→Prop}{W:World}{b mb:Nat}(hb:W.heap[b]? =some (.cells #[.slice none 0 0,.slice none 0 0,.slice none 0 0,.int .i64 0,.map (some mb),.slice none 0 0] 97 (0,0)))(hm:W.heap[mb]? =some (.map #[] 0)):RX Z W b (v0 mb) st0:=by
 have hne:mb≠b:=fun e=>by rw[e,hb]at hm;cases hm
 refine⟨hb,RowAt.nil _ _,VRow.nil _ _ _,RowAt.nil _ _,RowAt.nil _ _,rfl,fun m h=> ?_,⟨(fun j h=> ?_),(fun j h=>by cases h),(fun j h=>by cases h),(fun j h=>by cases h),(fun j h=>by cases h)⟩⟩
 ·cases h
  exact⟨#[],0,hm,rfl,by simp[st0]⟩
 ·cases h
  exact hne
theorem ymW:Small 0 st0:=⟨znc _,znc _,znc _,znc _,by decide,by decide,(fun x h=>by cases h),(fun j h=>by cases h)⟩
def ypn (Z:Nat→Prop)(W2:World)(b:Nat)(v:RV)(st:RSt)(q:(Int×Int)×List In)(gk:Nat)(v54:Value)(wr:World):Prop:=
 ∃(k:Nat) (code:List In),v54= .int .i64 k∧k≤st.jumps.length∧gk=st.jumps.length - k∧RX Z wr b v {st with code:=code}∧code.length=st.code.length∧ydT st.labels (st.jumps.drop k) code=q∧RK b v W2 v wr
def yoE (Z:Nat→Prop)(W2:World)(b mb:Nat)(ls:List ByteArray)(q:(Int×Int)×RSt)(gk:Nat)(v32:Value)(wr:World):Prop:=
 ∃(i:Nat) (st:RSt) (v:RV),v32= .int .i64 i∧i≤ls.length∧gk=ls.length - i∧RX Z wr b v st∧v.mb=some mb∧Small i st∧ycI (ls.drop i) i st=q∧RK b (v0 mb) W2 v wr
theorem yjA:∀ls:List ByteArray,ls.map Value.string=ls.flatMap Cells.enc
 |[]=>rfl
 |a::r=>by rw[List.map_cons,List.flatMap_cons,yjA r];rfl
theorem yb6 {mb b j:Nat}(h:Go.Va.RO (v0 mb) b j):j=b∨j=mb:=by
 rcases h with h|h|h|h|h|h
 ·exact .inl h
 ·exact .inr (Option.some.inj h).symm
 all_goals cases h
theorem ydC (sep:ByteArray)(n:Nat):∀(k:Nat) (s:ByteArray),s.size≤n→∀x∈Lib.splitB sep 0 k s,x.size≤n
 |0,s,h,x,hx=>by
  rw[Lib.splitB_zero,List.mem_singleton]at hx;rw[hx];exact h
 |k+1,s,h,x,hx=>by
  unfold Lib.splitB at hx;split at hx
  ·rw[List.mem_singleton]at hx
   rw[hx];exact h
  ·rcases List.mem_cons.1 hx with e|e
   ·rw[e,ByteArray.size_extract];omega
   ·exact ydC sep n k _ (by rw[ByteArray.size_extract];omega) x e
theorem yev {S:Nat→Prop}{N:Nat}{w w':World}(h:Keeps S w w')(hs:∀j,S j→N≤j)(hN:N≤w.heap.size):Below N w w':=⟨h.os,h.tape,h.output,h.size,fun k hk=>h.block k (by omega) (fun e=>by have:=hs k e;omega)⟩
theorem yb8 {S:Nat→Prop}{N:Nat}{w w':World}(K:Keeps S w w')(hs:∀j,S j→N≤j)(hN:N≤w.heap.size)(b1 b2 b3 b4 b5 b6 o1 o2 o3 o4 o5 o6:Nat)(v1 v2 v3 v4 v5 v6:Value)(h1:N≤b1)(h2:N≤b2)(h3:N≤b3)(h4:N≤b4)(h5:N≤b5)(h6:N≤b6):
  Below N w ((((((w'.setCell ⟨b1,o1,none⟩ v1).setCell ⟨b2,o2,none⟩ v2).setCell ⟨b3,o3,none⟩ v3).setCell ⟨b4,o4,none⟩ v4).setCell ⟨b5,o5,none⟩ v5).setCell ⟨b6,o6,none⟩ v6):=by
 have k0:Keeps (fun j=>N≤j) w w':=K.mono (fun j _ e=>hs j e);have k1:=Keeps.setCell (p:=⟨b1,o1,none⟩) k0 (.inl h1) v1;have k2:=Keeps.setCell (p:=⟨b2,o2,none⟩) k1 (.inl h2) v2;have k3:=Keeps.setCell (p:=⟨b3,o3,none⟩) k2 (.inl h3) v3;have k4:=Keeps.setCell (p:=⟨b4,o4,none⟩) k3 (.inl h4) v4;have k5:=Keeps.setCell (p:=⟨b5,o5,none⟩) k4 (.inl h5) v5;have k6:=Keeps.setCell (p:=⟨b6,o6,none⟩) k5 (.inl h6) v6;exact yev k6 (fun j hj=>hj) hN
theorem yjb (w':World)(b1 b2 o1 o2 o3 o4 o5 o6:Nat)(v1 v2 v3 v4 v5 v6:Value):
  Keeps (fun j=>j=b1∨j=b2) w' ((((((w'.setCell ⟨b1,o1,none⟩ v1).setCell ⟨b1,o2,none⟩ v2).setCell ⟨b1,o3,none⟩ v3).setCell ⟨b1,o4,none⟩ v4).setCell ⟨b2,o5,none⟩ v5).setCell ⟨b2,o6,none⟩ v6):=by
 have k0:Keeps (fun j=>j=b1∨j=b2) w' w':=Keeps.refl _ _;have k1:=Keeps.setCell (p:=⟨b1,o1,none⟩) k0 (.inl (.inl rfl)) v1;have k2:=Keeps.setCell (p:=⟨b1,o2,none⟩) k1 (.inl (.inl rfl)) v2;have k3:=Keeps.setCell (p:=⟨b1,o3,none⟩) k2 (.inl (.inl rfl)) v3;have k4:=Keeps.setCell (p:=⟨b1,o4,none⟩) k3 (.inl (.inl rfl)) v4;have k5:=Keeps.setCell (p:=⟨b2,o5,none⟩) k4 (.inl (.inr rfl)) v5;exact Keeps.setCell (p:=⟨b2,o6,none⟩) k5 (.inl (.inr rfl)) v6
theorem ym1 {w:World}{e:TypeId}{xs:List Jp}{g off n cap:Nat}(h:RowAt w e (.slice (some ⟨g,off,none⟩) n cap) xs){i:Nat}{x:Jp}(hx:xs[i]? =some x):w.cell? ⟨g,off+i*3,none⟩=some (.int .i64 x.at_)∧w.cell? ⟨g,off+i*3+1,none⟩=some (.int .i64 x.line)∧w.cell? ⟨g,off+i*3+2,none⟩=some (.string x.label):=by
 have h0:=h.cell hx (j:=0) (by decide);have h1:=h.cell hx (j:=1) (by decide);have h2:=h.cell hx (j:=2) (by decide);exact⟨h0,h1,h2⟩
theorem ylX {Z:Nat→Prop}{W:World}{b:Nat}{v:RV}{st:RSt}(R:RX Z W b v st){g off n cap:Nat}(hv:v.vc= .slice (some ⟨g,off,none⟩) n cap){i:Nat}{x:In}(hx:st.code[i]? =some x)(tg:Int):
  RX Z (W.setCell ⟨g,off+(i*2+1),none⟩ (.int .i64 tg)) b v {st with code:=st.code.set i {x with a:=tg}}∧RK b v W v (W.setCell ⟨g,off+(i*2+1),none⟩ (.int .i64 tg)):=by
 have hg:v.vc.ownBlock=some g:=by rw[hv];rfl
 have K:Keeps (fun j=>j=g) W (W.setCell ⟨g,off+(i*2+1),none⟩ (.int .i64 tg)):=Keeps.setCell (S:=fun j=>j=g) (p:=⟨g,off+(i*2+1),none⟩) (Keeps.refl _ _) (.inl rfl) _;refine⟨⟨(K.block b (zlt R.h) (fun e=>(R.sep.c g hg).1 e.symm)).trans R.h,?_,R.consts.keep K (fun j h s=>h.1 (by subst s;exact .inr (.inr (.inl hg)))) (fun j hj s=>(R.sep.k j hj).2.2 (by subst s;exact hg)),R.names.keep K (fun j hj s=>(R.sep.n j hj).2.2.1 (by subst s;exact hg)),R.jumps.keep K (fun j hj s=>(R.sep.j j hj).2.2.1 (by subst s;exact hg)),R.pl,fun m hm=>(R.labels m hm).keep K (fun s=>(R.sep.c g hg).2 (by subst s;exact hm)),R.sep⟩,K.mono (fun j _ e=>by subst e;exact .inr (.inr (.inl hg))),fun j h=>.inl h,rfl⟩;have:=R.code;rw[hv]at this⊢;exact this.setOne hx (j:=1) (u:=.int .i64 tg) (by decide) rfl
theorem yo9 (w:World)(o0 o1 o2 o3 o4:Obj):
  (((((w.alloc o0).alloc o1).alloc o2).alloc o3).alloc o4).heap[w.heap.size]? =some o0∧(((((w.alloc o0).alloc o1).alloc o2).alloc o3).alloc o4).heap[w.heap.size+1]? =some o1∧(((((w.alloc o0).alloc o1).alloc o2).alloc o3).alloc o4).heap[w.heap.size+1+1]? =some o2∧(((((w.alloc o0).alloc o1).alloc o2).alloc o3).alloc o4).heap[w.heap.size+1+1+1]? =some o3∧(((((w.alloc o0).alloc o1).alloc o2).alloc o3).alloc o4).heap[w.heap.size+4]? =some o4:=by
 have s1:(w.alloc o0).heap.size=w.heap.size+1:=by simp
 have s2:((w.alloc o0).alloc o1).heap.size=w.heap.size+1+1:=by simp
 have s3:(((w.alloc o0).alloc o1).alloc o2).heap.size=w.heap.size+1+1+1:=by simp
 have s4:((((w.alloc o0).alloc o1).alloc o2).alloc o3).heap.size=w.heap.size+4:=by simp
 have n0:=znb w o0;have n1:=znb (w.alloc o0) o1;have n2:=znb ((w.alloc o0).alloc o1) o2;have n3:=znb (((w.alloc o0).alloc o1).alloc o2) o3;have n4:=znb ((((w.alloc o0).alloc o1).alloc o2).alloc o3) o4;rw[s1]at n1;rw[s2]at n2;rw[s3]at n3;rw[s4]at n4;refine⟨?_,?_,?_,?_,n4⟩
 ·exact(zne _ _ _ (by omega)).trans ((zne _ _ _ (by omega)).trans ((zne _ _ _ (by omega)).trans ((zne _ _ _ (by omega)).trans n0)))
 ·exact(zne _ _ _ (by omega)).trans ((zne _ _ _ (by omega)).trans ((zne _ _ _ (by omega)).trans n1))
 ·exact(zne _ _ _ (by omega)).trans ((zne _ _ _ (by omega)).trans n2)
 ·exact(zne _ _ _ (by omega)).trans n3
structure LineLaw (N:Nat)(x:ByteArray):Prop where
 run:∀{Z:Nat→Prop} (b:Nat) (v:RV) (st:RSt) (n:Int) (W:World),RX Z W b v st→Gl Tryz.prog N W→(∀j,W.heap.size≤j→Z j)→∀m,v.mb=some m→st.consts.length≤65536→st.names.length≤65536→st.jumps.length≤65536→st.code.length≤65536→0≤st.places∧st.places≤100→Calls Tryz.prog 47 #[.pointer (some ⟨b,0,none⟩),.int .i64 n,.string x] W (ymJ Z W b v (lineL n x st))
 small:∀(line:Int) (n:Nat) (st:RSt),n≤65536→Small n st→Small (n+1) (lineL line x st).2
theorem yez {s:ByteArray}:∀x∈textL s,x.size≤s.size:=by
 have htl:(⟨(Lib.trimSuffix s.data.toList [10]).toArray⟩:ByteArray).size≤s.size:=by
  have e2:(⟨(Lib.trimSuffix s.data.toList [10]).toArray⟩:ByteArray).size=(Lib.trimSuffix s.data.toList [10]).length:=by show(Lib.trimSuffix s.data.toList [10]).toArray.size=_;simp
  rw[e2];unfold Lib.trimSuffix;split<;>simp
 exact fun x hx=>ydC ⟨#[10]⟩ s.size _ _ htl x hx
theorem ykj {N:Nat}(s:ByteArray)(w:World)(G:Gl Tryz.prog N w)(h:s.size≤65536)(hn:Lib.hasSuffix s.data.toList [10]=true)(LW:∀x∈textL s,LineLaw N x)(q:(Int×Int)×RSt)(hq:ycI (textL s) 0 st0=q)(r:Img×Int×Int)
  (hr:(bif q.1.2 !=0 then(ye2,q.1.1,q.1.2)else
    let j:=ydT q.2.labels q.2.jumps q.2.code
    bif j.1.2 !=0 then(ye2,j.1.1,j.1.2)else
    let p:Img:=⟨j.2,q.2.consts,q.2.names,q.2.places⟩
    bif imgL p !=0 then(ye2,0,imgL p)else(p,0,0))=r):
  Calls Tryz.prog 10 #[.string s] w (ynR w r):=by
 have e1:¬(65536:Int)<s.size:=by omega
 obtain⟨t,ht⟩:∃t:ByteArray,t=⟨(Lib.trimSuffix s.data.toList [10]).toArray⟩:=⟨_,rfl⟩;have htl:t.size≤s.size:=by
  have e2:t.size=(Lib.trimSuffix s.data.toList [10]).length:=by rw[ht];show(Lib.trimSuffix s.data.toList [10]).toArray.size=_;simp
  rw[e2];unfold Lib.trimSuffix;split<;>simp
 have CSF:=zhd (show∀W,Calls Tryz.prog 45 #[.string s,.string ⟨#[10]⟩] W (fun e w'=>e= .returned (.tuple #[.string t,.bool true])∧w'=W)from fun W=>(Any.strings_CutSuffix Tryz.lays104 s ⟨#[10]⟩ W (by omega)).mono fun e w' ⟨j1,j2⟩=>⟨by rw[j1,show(⟨#[10]⟩:ByteArray).data.toList=[10]from rfl,hn,ht],j2⟩);have hi9:(Tryz.prog.info? 9).map (fun i=>(i.zero,i.size,i.bytes))=some (some (.string ByteArray.empty),1,16):=by kernel_rfl
 have SPL:=zhd (show∀W,Gl Tryz.prog N W→Calls Tryz.prog 46 #[.string t,.string ⟨#[10]⟩] W (fun e w'=>e= .returned (.slice (some ⟨W.heap.size,0,none⟩) (textL s).length (textL s).length)∧w'=W.alloc (.cells ((textL s).map Value.string).toArray 9))from fun W GW=>by
  obtain⟨m,hm⟩:=GW.m;have hlen:(textL s).length=Lib.countB t ⟨#[10]⟩+1:=by
   unfold textL;rw[←ht];exact Lib.splitB_all ⟨#[10]⟩ (by decide) 0 _ t rfl
  refine(Any.strings_Split Tryz.lays146 hi9 t ⟨#[10]⟩ m W (by omega) hm (by decide)).mono fun e w' ⟨j1,j2⟩=>⟨by rw[j1,hlen],?_⟩;rw[j2];unfold textL;rw[←ht];rfl)
 have hlen:(textL s).length≤65537:=by
  have e2:(textL s).length=Lib.countB t ⟨#[10]⟩+1:=by
   unfold textL;rw[←ht];exact Lib.splitB_all ⟨#[10]⟩ (by decide) 0 _ t rfl
  have:=Lib.countB_le ⟨#[10]⟩ (by decide) t.size t (znc _);omega
 have hls:=zhd LW;have HQ:=zh2 hq hr;clear hq hr hi9 ht hn LW;generalize textL s=ls at*;have HN:=zhd G.n;have hmm:= @run_makeMap Tryz.prog;go_enter Tryz.func10,Tryz.ntmps10;go_wp2_with fail;refine(CSF.o _).mono ?_;rintro e w1 ⟨rfl,rfl⟩;go_wp2_with fail;refine(SPL.o _ ((((G.alloc _).alloc _).alloc _).alloc _)).mono ?_;rintro e w1 ⟨rfl,rfl⟩;obtain⟨W2,hW2⟩:∃W2,W2=(((((w.alloc (.cells #[.slice none 0 0,.slice none 0 0,.slice none 0 0,.int .i64 0] 28)).alloc (.cells #[.int .i64 0,.int .i64 0] 31)).alloc (.map #[] 0)).alloc (.cells #[.slice none 0 0,.slice none 0 0,.slice none 0 0,.int .i64 0,.map (some (w.heap.size+1+1)),.slice none 0 0] 97)).alloc (.cells (ls.map Value.string).toArray 9)):=⟨_,rfl⟩;have sz2:W2.heap.size=w.heap.size+5:=by rw[hW2];simp
 have B2:Below w.heap.size w W2:=by
  rw[hW2];exact((((zal).alloc (by simp) _).alloc (by simp;omega) _).alloc (by simp;omega) _).alloc (by simp;omega) _
 obtain⟨c0,c1,c2,c3,c4⟩:=hW2▸yo9 w (.cells #[.slice none 0 0,.slice none 0 0,.slice none 0 0,.int .i64 0] 28) (.cells #[.int .i64 0,.int .i64 0] 31) (.map #[] 0) (.cells #[.slice none 0 0,.slice none 0 0,.slice none 0 0,.int .i64 0,.map (some (w.heap.size+1+1)),.slice none 0 0] 97) (.cells (ls.map Value.string).toArray 9);have e4:((((w.alloc (.cells #[.slice none 0 0,.slice none 0 0,.slice none 0 0,.int .i64 0] 28)).alloc (.cells #[.int .i64 0,.int .i64 0] 31)).alloc (.map #[] 0)).alloc (.cells #[.slice none 0 0,.slice none 0 0,.slice none 0 0,.int .i64 0,.map (some (w.heap.size+1+1)),.slice none 0 0] 97)).heap.size=w.heap.size+4:=by simp
 rw[←hW2,e4];have RX0:=ym0 (Z:=fun j=>w.heap.size+5≤j) c3 c2;have RL:RowAt W2 9 (.slice (some ⟨w.heap.size+4,0,none⟩) ls.length ls.length) ls:=RowAt.made c4 (by rw[List.toList_toArray];exact yjA ls) rfl (by simp only[maxLen];omega);have G2:=G.below B2;have H2:=zh7 c0 c1 RX0 RL B2 G2 sz2;have HC4:=zhd c4;clear c0 c1 c2 c3 c4 RX0 RL B2 G2 sz2 hW2 e4 G;go_wp2_with fail;go_loopg [32] (ls.length) (fun gk v32 wr=>yoE (fun j=>w.heap.size+5≤j) W2 (w.heap.size+1+1+1) (w.heap.size+1+1) ls q gk v32 wr)
 case atStart=>exact⟨0,st0,v0 _,rfl,znq _,rfl,H2.o.2.2.1,rfl,ymW,HQ.o.1,RK.refl _ _ _⟩
 case round=>
  obtain⟨i,st,v,rfl,hi,hgk,hR,hmb,hsm,hlin,hK⟩:=hrel;by_cases hin:i<ls.length
  ·obtain⟨x,hx⟩:=yad hin
   have hdr:ls.drop i=x::ls.drop (i+1):=by
    rw[znr (zge hx).1,(zge hx).2]
   rw[hdr,ycI]at hlin;have hxs:=hls.o x (zmg hx);have hNW:N≤w.heap.size:=by have:=H2.o.2.2.2.2.2.1;have:=HN.o;omega
   have RLr:=H2.o.2.2.2.1.keep hK.1 (fun g hg e=>by
    have hg':w.heap.size+4=g:=Option.some.inj hg;have:=yb6 e;omega)
   have Gr:Gl Tryz.prog N wr:=H2.o.2.2.2.2.2.1.keep hK.1 (fun j hj=>by have:=yb6 hj;omega);have hcx:wr.cell? ⟨w.heap.size+4,i,none⟩=some (.string x):=by
    have hb4:=(hK.1.block (w.heap.size+4) (by have:=H2.o.2.2.2.2.2.2;omega) (fun e=>by have:=yb6 e;omega)).trans HC4.o;rw[zch hb4];simp[hx]
   have szr:w.heap.size+5≤wr.heap.size:=by have:=hK.1.size;have:=H2.o.2.2.2.2.2.2;omega
   have LA:=zhd (hxs.run (w.heap.size+1+1+1) v st ((i:Int)+1) wr hR Gr (fun j hj=>by omega) (w.heap.size+1+1) hmb (by have:=hsm.consts;omega) (by have:=hsm.names;omega) (by have:=hsm.jumps;omega) (by have:=hsm.code;omega) ⟨hsm.p0,hsm.p1⟩);have HS:=zhd (hxs.small ((i:Int)+1) i st (by omega) hsm);generalize lineL ((i:Int)+1) x st=lr at*;have HX:=zh5 hlin hK hgk szr RLr;have hw1:IntKind.i64.wrap ((i:Int)+1)=(i:Int)+1:=zmk _ (by omega);clear hlin hK hgk szr hdr hsm;go_wp2_with fail;refine LA.o.mono ?_;rintro e w5 ⟨v5,rfl,H5⟩;cases hz:(lr.1 !=0)with
   |true=>
    have hq:(((i:Int)+1,lr.1),lr.2)=q:=by have:=HX.o.1;rw[hz]at this;exact this
    have hr:=HQ.o.2;rw[←hq]at hr;dsimp only at hr;rw[hz]at hr;simp only[znm]at hr;have HR:=zhd hr;have K5:=HX.o.2.1.1.trans H5.o.2.1 (fun j hj e=>(HX.o.2.1.2.1 j e).resolve_right (by omega));have sz2:=H2.o.2.2.2.2.2.2;have b0:=(K5.block w.heap.size (by omega) (fun e=>by have:=yb6 e;omega)).trans H2.o.1;have b1:=(K5.block (w.heap.size+1) (by omega) (fun e=>by have:=yb6 e;omega)).trans H2.o.2.1;have q0:∀o,w5.cell? ⟨w.heap.size,o,none⟩=(#[.slice none 0 0,.slice none 0 0,.slice none 0 0,.int .i64 0]:Array Value)[o]? :=fun o=>by rw[zch b0]
    have q1:∀o,w5.cell? ⟨w.heap.size+1,o,none⟩=(#[.int .i64 0,.int .i64 0]:Array Value)[o]? :=fun o=>by rw[zch b1]
    have p0:=q0 0;have p1:=q0 1;have p2:=q0 2;have p3:=q0 3;have p4:=q1 0;have p5:=q1 1;simp only[zmc,zma,zmb]at p0 p1 p2 p3 p4 p5;have l5:w.heap.size+5≤w5.heap.size:=by have:=K5.size;omega
    have l0:w.heap.size<w5.heap.size:=by omega
    have l1:w.heap.size+1<w5.heap.size:=by omega
    have BB:=H2.o.2.2.2.2.1.trans (yb8 (N:=w.heap.size) K5 (fun j e=>by have:=yb6 e;omega) (by omega) w.heap.size w.heap.size w.heap.size w.heap.size (w.heap.size+1) (w.heap.size+1) 0 1 2 3 0 1 (.slice none 0 0) (.slice none 0 0) (.slice none 0 0) (.int .i64 0) (.int .i64 ((i:Int)+1)) (.int .i64 lr.1) (by omega) (by omega) (by omega) (by omega) (by omega) (by omega));replace BB:=zhd BB;have z0:=zfr b0 0;have z1:=zfr b0 1;have z2:=zfr b0 2;have z3:=zfr b0 3;have y0:=zfr b1 0;have y1:=zfr b1 1;clear hq hr K5 b0 b1 q0 q1 sz2;go_wp2_with fail;exact zng (v:=.tuple #[.agg #[.slice none 0 0,.slice none 0 0,.slice none 0 0,.int .i64 0],.agg #[.int .i64 ((i:Int)+1),.int .i64 lr.1]]) (by simp only[results,Tryz.results10];go_simp) rfl ⟨⟨none,0,0,none,0,0,none,0,0,0⟩,by rw[←HR.o],by rw[←HR.o];exact ydn _ _,BB.o⟩
   |false=>
    have hl:=HX.o.1;rw[hz]at hl;simp only[znl]at hl;have HC:=zhd hl;clear hl;go_wp2_with fail;go_roundg (ls.length - (i+1))
    case measure=>have:=HX.o.2.2.1;omega
    case rel=>exact⟨i+1,lr.2,v5,by simp,by omega,rfl,H5.o.1,H5.o.2.2.2.trans hmb,HS.o,HC.o,HX.o.2.1.trans H5.o.2⟩
  ·obtain rfl:i=ls.length:=by omega
   have hdn:ls.drop ls.length=[]:=zns (znc _);rw[hdn,ycI]at hlin;have hr:=HQ.o.2;rw[←hlin]at hr;simp only[bne_self_eq_false,znl]at hr;have HR:=zhd hr;have q5:=zca hR.h 5 rfl;have szr:w.heap.size+5≤wr.heap.size:=by have:=hK.1.size;have:=H2.o.2.2.2.2.2.2;omega
   have l3:w.heap.size+1+1+1<wr.heap.size:=by omega
   obtain⟨ja,jc,hvj⟩:=hR.jumps.slice;rw[hvj]at q5;have HAt:=zhd (show ymS st from by
    have h0:=yfH ls 0 st0 (fun j hj=>by cases hj) (by rw[HQ.o.1,←hlin]);rw[HQ.o.1,←hlin]at h0;exact h0)
   have HX:=zh4 hR hmb hsm hK;obtain⟨wm,hwm⟩:∃wm,wm=wr:=⟨_,rfl⟩;rw[←hwm]at q5 szr l3 HX⊢;clear hr hlin hdn hR hmb hsm hK hwm;go_wp2_with fail;go_loopg [54] (st.jumps.length) (fun gk v54 wz=>ypn (fun j=>w.heap.size+5≤j) wm (w.heap.size+1+1+1) v st (ydT st.labels st.jumps st.code) gk v54 wz)
   case atStart=>exact⟨0,st.code,rfl,znq _,rfl,HX.o.1,rfl,rfl,RK.refl _ _ _⟩
   case round=>
    obtain⟨k,code,rfl,hk,hgk,hR,hcl,hjq,hK⟩:=hrel;by_cases hkn:k<st.jumps.length
    ·obtain⟨x,hx⟩:=yad hkn
     have hdr:st.jumps.drop k=x::st.jumps.drop (k+1):=by
      rw[znr (zge hx).1,(zge hx).2]
     rw[hdr,ydT]at hjq;have RJ:=hR.jumps;rw[hvj]at RJ;obtain⟨jg,joff,hja,hjl⟩:=RJ.addr hx;subst hja;obtain⟨x0,x1,x2⟩:=ym1 RJ hx;have qq:∀o,wr.cell? ⟨w.heap.size+1+1+1,o,none⟩=(#[v.vc,v.vk,v.vn,.int .i64 v.pl,.map v.mb,v.vj]:Array Value)[o]? :=fun o=>by rw[zch hR.h]
     have q0:=qq 0;have q4:=qq 4;simp only[zmc,zma,zmb]at q0 q4;rw[HX.o.2.1]at q4;have lz:w.heap.size+1+1+1<wr.heap.size:=zlt hR.h;obtain⟨ca,cc,hvc⟩:=hR.code.slice;rw[hvc]at q0;have hlk:=yk1 (hR.labels _ HX.o.2.1) x.label;have hlt2:w.heap.size+1+1<wr.heap.size:=by omega
     clear qq;obtain⟨y,hy⟩:∃y,MapTy.get st.labels x.label=y:=⟨_,rfl⟩;rw[hy]at hlk hjq;have HG:=zh4 hcl hgk hR hK;clear hcl hgk hR hK hdr;cases y with
     |none=>
      simp only[Option.getD_none,Option.isSome_none]at hlk hjq;have hr:=HR.o;rw[←hjq]at hr;simp only[show((120:Int)!=0)=true from rfl,znm]at hr;have HR2:=zhd hr;have K5:=(HX.o.2.2.2.trans HG.o.2.2.2).1;have HQQ:=zh2 hjq K5;clear hr hjq K5;go_wp2_with fail;obtain⟨w6,hw6⟩:∃w6,w6=wr.alloc (.cells #[.int .i64 x.at_,.int .i64 x.line,.string x.label] 103):=⟨_,rfl⟩;have B6:=zba hw6;have j1:w6.cell? ⟨wr.heap.size,1,none⟩=some (.int .i64 x.line):=by rw[hw6,zch (znb _ _)];rfl
      have l6:w6.heap.size=wr.heap.size+1:=by rw[hw6];simp
      have K6:Keeps (fun j=>w.heap.size+2≤j) wr w6:=Keeps.mono (zkb B6 (S:=fun _=>False)) (fun _ _ f=>f.elim);rw[←hw6];have sz2:=H2.o.2.2.2.2.2.2;have b0:=(B6.block _ (by omega)).trans ((HQQ.o.2.block w.heap.size (by omega) (fun e=>by have:=yb6 e;omega)).trans H2.o.1);have b1:=(B6.block _ (by omega)).trans ((HQQ.o.2.block (w.heap.size+1) (by omega) (fun e=>by have:=yb6 e;omega)).trans H2.o.2.1);have q0':∀o,w6.cell? ⟨w.heap.size,o,none⟩=(#[.slice none 0 0,.slice none 0 0,.slice none 0 0,.int .i64 0]:Array Value)[o]? :=fun o=>by rw[zch b0]
      have q1':∀o,w6.cell? ⟨w.heap.size+1,o,none⟩=(#[.int .i64 0,.int .i64 0]:Array Value)[o]? :=fun o=>by rw[zch b1]
      have p0:=q0' 0;have p1:=q0' 1;have p2:=q0' 2;have p3:=q0' 3;have p4:=q1' 0;have p5:=q1' 1;simp only[zmc,zma,zmb]at p0 p1 p2 p3 p4 p5;have z0:=zfr b0 0;have z1:=zfr b0 1;have z2:=zfr b0 2;have z3:=zfr b0 3;have y0:=zfr b1 0;have y1:=zfr b1 1;have l0:w.heap.size<w6.heap.size:=by omega
      have l1:w.heap.size+1<w6.heap.size:=by omega
      have l7:wr.heap.size<w6.heap.size:=by omega
      have d1:¬wr.heap.size=w.heap.size:=by omega
      have d2:¬wr.heap.size=w.heap.size+1:=by omega
      have H6:=zh3 B6 l6 K6;have K7:=HQQ.o.2.trans (T:=fun j=>wr.heap.size≤j) (Keeps.mono (zkb B6 (S:=fun _=>False)) (fun _ _ f=>f.elim)) (fun j hj e=>by have:=HQQ.o.2.size;omega);have BB:=zhd (H2.o.2.2.2.2.1.trans (yb8 (N:=w.heap.size) K7 (fun j e=>by have:=yb6 e;omega) (by omega) w.heap.size w.heap.size w.heap.size w.heap.size (w.heap.size+1) (w.heap.size+1) 0 1 2 3 0 1 (.slice none 0 0) (.slice none 0 0) (.slice none 0 0) (.int .i64 0) (.int .i64 x.line) (.int .i64 120) (by omega) (by omega) (by omega) (by omega) (by omega) (by omega)));clear hw6 B6 l6 K6 K7 b0 b1 q0' q1' sz2;go_region;go_wp2_with fail;exact zng (v:=.tuple #[.agg #[.slice none 0 0,.slice none 0 0,.slice none 0 0,.int .i64 0],.agg #[.int .i64 x.line,.int .i64 120]]) (by simp only[results,Tryz.results10];go_simp) rfl ⟨⟨none,0,0,none,0,0,none,0,0,0⟩,by rw[←HR2.o],by rw[←HR2.o];exact ydn _ _,BB.o.drew⟩
     |some tg=>
      simp only[Option.getD_some,Option.isSome_some]at hlk hjq;cases hge:(tg==(code.length:Int))with
      |true=>
       rw[hge]at hjq;simp only[znm]at hjq;have hr:=HR.o;rw[←hjq]at hr;simp only[show((120:Int)!=0)=true from rfl,znm]at hr;have HR2:=zhd hr;have K5:=(HX.o.2.2.2.trans HG.o.2.2.2).1;have HQQ:=zh2 hjq K5;clear hr hjq K5;go_wp2_with fail;obtain⟨w6,hw6⟩:∃w6,w6=wr.alloc (.cells #[.int .i64 x.at_,.int .i64 x.line,.string x.label] 103):=⟨_,rfl⟩;have B6:=zba hw6;have j1:w6.cell? ⟨wr.heap.size,1,none⟩=some (.int .i64 x.line):=by rw[hw6,zch (znb _ _)];rfl
       have l6:w6.heap.size=wr.heap.size+1:=by rw[hw6];simp
       have K6:Keeps (fun j=>w.heap.size+2≤j) wr w6:=Keeps.mono (zkb B6 (S:=fun _=>False)) (fun _ _ f=>f.elim);rw[←hw6];have sz2:=H2.o.2.2.2.2.2.2;have b0:=(B6.block _ (by omega)).trans ((HQQ.o.2.block w.heap.size (by omega) (fun e=>by have:=yb6 e;omega)).trans H2.o.1);have b1:=(B6.block _ (by omega)).trans ((HQQ.o.2.block (w.heap.size+1) (by omega) (fun e=>by have:=yb6 e;omega)).trans H2.o.2.1);have q0':∀o,w6.cell? ⟨w.heap.size,o,none⟩=(#[.slice none 0 0,.slice none 0 0,.slice none 0 0,.int .i64 0]:Array Value)[o]? :=fun o=>by rw[zch b0]
       have q1':∀o,w6.cell? ⟨w.heap.size+1,o,none⟩=(#[.int .i64 0,.int .i64 0]:Array Value)[o]? :=fun o=>by rw[zch b1]
       have p0:=q0' 0;have p1:=q0' 1;have p2:=q0' 2;have p3:=q0' 3;have p4:=q1' 0;have p5:=q1' 1;simp only[zmc,zma,zmb]at p0 p1 p2 p3 p4 p5;have z0:=zfr b0 0;have z1:=zfr b0 1;have z2:=zfr b0 2;have z3:=zfr b0 3;have y0:=zfr b1 0;have y1:=zfr b1 1;have l0:w.heap.size<w6.heap.size:=by omega
       have l1:w.heap.size+1<w6.heap.size:=by omega
       have l7:wr.heap.size<w6.heap.size:=by omega
       have d1:¬wr.heap.size=w.heap.size:=by omega
       have d2:¬wr.heap.size=w.heap.size+1:=by omega
       have H6:=zh3 B6 l6 K6;have K7:=HQQ.o.2.trans (T:=fun j=>wr.heap.size≤j) (Keeps.mono (zkb B6 (S:=fun _=>False)) (fun _ _ f=>f.elim)) (fun j hj e=>by have:=HQQ.o.2.size;omega);have BB:=zhd (H2.o.2.2.2.2.1.trans (yb8 (N:=w.heap.size) K7 (fun j e=>by have:=yb6 e;omega) (by omega) w.heap.size w.heap.size w.heap.size w.heap.size (w.heap.size+1) (w.heap.size+1) 0 1 2 3 0 1 (.slice none 0 0) (.slice none 0 0) (.slice none 0 0) (.int .i64 0) (.int .i64 x.line) (.int .i64 120) (by omega) (by omega) (by omega) (by omega) (by omega) (by omega)));clear hw6 B6 l6 K6 K7 b0 b1 q0' q1' sz2;go_region;go_wp2_with fail;exact zng (v:=.tuple #[.agg #[.slice none 0 0,.slice none 0 0,.slice none 0 0,.int .i64 0],.agg #[.int .i64 x.line,.int .i64 120]]) (by simp only[results,Tryz.results10];go_simp) rfl ⟨⟨none,0,0,none,0,0,none,0,0,0⟩,by rw[←HR2.o],by rw[←HR2.o];exact ydn _ _,BB.o.drew⟩
      |false=>
       rw[hge]at hjq;simp only[znl]at hjq;have hat:=HAt.o x (zmg hx);rw[←HG.o.1]at hat;obtain⟨c,hc⟩:=yad hat.2;rw[ykH hc]at hjq;have RC:=HG.o.2.2.1.code;dsimp only at RC;rw[hvc]at RC;obtain⟨cg,coff,hca,hcl2⟩:=RC.addr hc;subst hca;obtain⟨i,hi⟩:∃i:Nat,i=x.at_.toNat:=⟨_,rfl⟩;rw[←hi]at hc hjq;have hai:x.at_=(i:Int):=by omega
       rw[hai]at x0;have hilt:i<code.length:=by omega
       have u1:=RC.cell hc (j:=1) (by decide);have u0:=RC.cell hc (j:=0) (by decide);rw[show coff+(i*sz In+1)=coff+i*2+1 from rfl]at u1;rw[show coff+(i*sz In+0)=coff+i*2 from rfl]at u0;have fz:=RC.frozen (coff+i*2+1);have fz0:=RC.frozen (coff+i*2);have lcg:cg<wr.heap.size:=RC.lt rfl;have PK:=zhd (ylX HG.o.2.2.1 hvc hc tg);have hwk:IntKind.i64.wrap ((k:Int)+1)=(k:Int)+1:=zmk _ (by have:=HX.o.2.2.1.jumps;omega);rw[show coff+(i*2+1)=coff+i*2+1 from rfl]at PK;have HJ:=zh2 hjq hai;clear hjq hai RC hat hi;go_wp2_with fail;go_roundg (st.jumps.length - (k+1))
       case measure=>have:=HG.o.2.1;omega
       case rel=>exact⟨k+1,code.set i {c with a:=tg},by simp,by omega,rfl,PK.o.1.ext ((znv _ _).alloc (by simp) _),by rw[List.length_set];exact HG.o.1,HJ.o.1,HG.o.2.2.2.trans (PK.o.2.trans (RK.ext ((znv _ _).alloc (by simp) _)))⟩
    ·obtain rfl:k=st.jumps.length:=by omega
     have hdn:st.jumps.drop st.jumps.length=[]:=zns (znc _);rw[hdn,ydT]at hjq;have hr:=HR.o;rw[←hjq]at hr;simp only[bne_self_eq_false,znl]at hr;have qq:∀o,wr.cell? ⟨w.heap.size+1+1+1,o,none⟩=(#[v.vc,v.vk,v.vn,.int .i64 v.pl,.map v.mb,v.vj]:Array Value)[o]? :=fun o=>by rw[zch hR.h]
     have q0:=qq 0;have q1:=qq 1;have q2:=qq 2;have q3:=qq 3;simp only[zmc,zma,zmb]at q0 q1 q2 q3;have lz:w.heap.size+1+1+1<wr.heap.size:=zlt hR.h;obtain⟨ca,cc,hvc⟩:=hR.code.slice;obtain⟨ka,kc,hvk⟩:=hR.consts.slice;obtain⟨na,nc,hvn⟩:=hR.names.slice;have szW:=H2.o.2.2.2.2.2.2;have hge:∀j,Go.Va.RO v (w.heap.size+1+1+1) j→w.heap.size+2≤j:=fun j e=>by
      rcases HX.o.2.2.2.2.1 j e with h|h
      ·have:=yb6 h
       omega
      ·omega
     have hI:IAt (fun j=>w.heap.size+2≤j) wr ⟨ca,code.length,cc,ka,st.consts.length,kc,na,st.names.length,nc,v.pl⟩ ⟨code,st.consts,st.names,st.places⟩:=
      ⟨by rw[←hvc];exact RdF.of_row hR.code (fun g h=>hge g (.inr (.inr (.inl h)))),by rw[←hvk];exact VRow.vf hR.consts (fun g h=>by have:=h.2;show w.heap.size+2≤g;omega) (fun g h=>hge g (.inr (.inr (.inr (.inl h))))),by rw[←hvn];exact RdF.of_row hR.names (fun g h=>hge g (.inr (.inr (.inr (.inr (.inl h)))))),hR.pl⟩
     rw[hvc]at q0;rw[hvk]at q1;rw[hvn]at q2;obtain⟨ir,hir⟩:∃ir,imgL ⟨code,st.consts,st.names,st.places⟩=ir:=⟨_,rfl⟩;rw[hir]at hr;have IC:=zhd (fun W (hW:Below wr.heap.size wr W)=>yc9 _ W _ _ (hI.keep (S:=fun _=>False) (zkb hW) (fun _ _ f=>f)) _ HX.o.2.2.1.wf hir);have K5:=(HX.o.2.2.2.trans hK).1;have HQQ:=zh3 hr K5 hI;clear hr K5 hI hge qq hvc hvk hvn hdn hjq hR hK hcl hgk hir szW;generalize v.pl=vpl at*;go_wp2_with fail;refine(IC.o _ (zal)).mono ?_;rintro e w6 ⟨rfl,hB5⟩;have B6:Below wr.heap.size wr w6:=((znv _ _).alloc (znc _) (.cells #[.slice ca code.length cc,.slice ka st.consts.length kc,.slice na st.names.length nc,.int .i64 vpl] 28)).trans (hB5.mono (by simp));have sz2:=H2.o.2.2.2.2.2.2;have b0:=(B6.block _ (by omega)).trans ((HQQ.o.2.1.block w.heap.size (by omega) (fun e=>by have:=yb6 e;omega)).trans H2.o.1);have b1:=(B6.block _ (by omega)).trans ((HQQ.o.2.1.block (w.heap.size+1) (by omega) (fun e=>by have:=yb6 e;omega)).trans H2.o.2.1);have b2:=(hB5.block wr.heap.size (by simp)).trans (znb wr _)
     have q0':∀o,w6.cell? ⟨w.heap.size,o,none⟩=(#[.slice none 0 0,.slice none 0 0,.slice none 0 0,.int .i64 0]:Array Value)[o]? :=fun o=>by rw[zch b0]
     have q1':∀o,w6.cell? ⟨w.heap.size+1,o,none⟩=(#[.int .i64 0,.int .i64 0]:Array Value)[o]? :=fun o=>by rw[zch b1]
     have q2':∀o,w6.cell? ⟨wr.heap.size,o,none⟩=(#[.slice ca code.length cc,.slice ka st.consts.length kc,.slice na st.names.length nc,.int .i64 vpl]:Array Value)[o]? :=fun o=>by rw[zch b2]
     have p0:=q0' 0;have p1:=q0' 1;have p2:=q0' 2;have p3:=q0' 3;have p4:=q1' 0;have p5:=q1' 1;have p6:=q2' 0;have p7:=q2' 1;have p8:=q2' 2;have p9:=q2' 3;simp only[zmc,zma,zmb]at p0 p1 p2 p3 p4 p5 p6 p7 p8 p9;have z0:=zfr b0 0;have z1:=zfr b0 1;have z2:=zfr b0 2;have z3:=zfr b0 3;have y0:=zfr b1 0;have y1:=zfr b1 1;have l6:wr.heap.size<w6.heap.size:=zlt b2;have l0:w.heap.size<w6.heap.size:=by omega
     have l1:w.heap.size+1<w6.heap.size:=by omega
     have d1:¬wr.heap.size=w.heap.size:=by omega
     have d2:¬wr.heap.size=w.heap.size+1:=by omega
     have K7:=HQQ.o.2.1.trans (T:=fun j=>wr.heap.size≤j) (Keeps.mono (zkb B6 (S:=fun _=>False)) (fun _ _ f=>f.elim)) (fun j hj e=>by have:=HQQ.o.2.1.size;omega);have HK7:=zh3 K7 B6 sz2;clear hB5 b0 b1 b2 q0' q1' q2' K7 B6 sz2 IC;cases hz:(ir !=0)with
     |true=>
      have hr:=HQQ.o.1;rw[hz]at hr;simp only[znm]at hr;have HR2:=zhd hr;have BB:=zhd (H2.o.2.2.2.2.1.trans (yb8 (N:=w.heap.size) HK7.o.1 (fun j e=>by have:=yb6 e;omega) (by have:=HK7.o.2.2;omega) w.heap.size w.heap.size w.heap.size w.heap.size (w.heap.size+1) (w.heap.size+1) 0 1 2 3 0 1 (.slice none 0 0) (.slice none 0 0) (.slice none 0 0) (.int .i64 0) (.int .i64 0) (.int .i64 ir) (by omega) (by omega) (by omega) (by omega) (by omega) (by omega)));clear hr;go_wp2_with fail;exact zng (v:=.tuple #[.agg #[.slice none 0 0,.slice none 0 0,.slice none 0 0,.int .i64 0],.agg #[.int .i64 0,.int .i64 ir]]) (by simp only[results,Tryz.results10];go_simp) rfl ⟨⟨none,0,0,none,0,0,none,0,0,0⟩,by rw[←HR2.o],by rw[←HR2.o];exact ydn _ _,BB.o⟩
     |false=>
      have hr:=HQQ.o.1;rw[hz]at hr;simp only[znl]at hr;have HR2:=zhd hr;have BB:=zhd (H2.o.2.2.2.2.1.trans (yb8 (N:=w.heap.size) HK7.o.1 (fun j e=>by have:=yb6 e;omega) (by have:=HK7.o.2.2;omega) w.heap.size w.heap.size w.heap.size w.heap.size (w.heap.size+1) (w.heap.size+1) 0 1 2 3 0 1 (.slice ca code.length cc) (.slice ka st.consts.length kc) (.slice na st.names.length nc) (.int .i64 vpl) (.int .i64 0) (.int .i64 0) (by omega) (by omega) (by omega) (by omega) (by omega) (by omega)));have KI:=zhd (((HQQ.o.2.2.keep (S:=fun _=>False) (zkb HK7.o.2.1) (fun _ _ f=>f)).keep (yjb w6 w.heap.size (w.heap.size+1) 0 1 2 3 0 1 (.slice ca code.length cc) (.slice ka st.consts.length kc) (.slice na st.names.length nc) (.int .i64 vpl) (.int .i64 0) (.int .i64 0)) (fun g h e=>by rcases e with e|e<;>omega)).mono (G:=fun j=>w.heap.size≤j) (fun g h _=>by show w.heap.size≤g;omega));clear hr;go_wp2_with fail
      exact zng (v:=.tuple #[.agg #[.slice ca code.length cc,.slice ka st.consts.length kc,.slice na st.names.length nc,.int .i64 vpl],.agg #[.int .i64 0,.int .i64 0]]) (by simp only[results,Tryz.results10];go_simp) rfl ⟨⟨ca,code.length,cc,ka,st.consts.length,kc,na,st.names.length,nc,vpl⟩,by rw[←HR2.o],by rw[←HR2.o];exact KI.o,BB.o⟩
theorem yeN {p:Img}:∀{l:List In},ybp p l=0→∀c∈l,(ofL c.op).2=true∧0≤c.a∧c.a<mostL p (ofL c.op).1.operand
 |[],_,c,hc=>by cases hc
 |d::r,h,c,hc=>by
  rw[ybp]at h;cases h1:(ofL d.op).2 with
  |false=>rw[h1]at h;simp at h
  |true=>
   rw[h1]at h;simp only[Bool.not_true,znl]at h;cases h2:(decide (d.a<0)||decide (mostL p (ofL d.op).1.operand≤d.a))with
   |true=>rw[h2]at h;simp at h
   |false=>
    rw[h2]at h;simp only[znl]at h;rw[Bool.or_eq_false_iff,znz,znz]at h2;rcases List.mem_cons.1 hc with rfl|hc
    ·exact⟨h1,by omega,by omega⟩
    ·exact yeN h c hc
theorem ybL {p:Img}(h:imgL p=0):0<p.code.length∧p.code.length≤512∧p.consts.length≤64∧p.names.length≤32∧0≤p.places∧p.places≤16∧yaI p.consts=0∧ya8 p.names=0∧∀c∈p.code,(ofL c.op).2=true∧0≤c.a∧c.a<mostL p (ofL c.op).1.operand:=by
 unfold imgL at h;by_cases h0:p.code.length=0
 ·rw[zno h0]at h
  simp at h
 ·rw[znd h0]at h
  simp only[znl]at h;cases h1:(decide (512<p.code.length)||(decide (64<p.consts.length)||decide (32<p.names.length)))with
  |true=>rw[h1]at h;simp at h
  |false=>
   rw[h1]at h;simp only[znl]at h;cases h2:(decide (p.places<0)||decide (16<p.places))with
   |true=>rw[h2]at h;simp at h
   |false=>
    rw[h2]at h;simp only[znl]at h;cases h3:(yaI p.consts !=0)with
    |true=>
     rw[h3]at h;simp only[znm]at h;rw[h]at h3;cases h3
    |false=>
     rw[h3]at h;simp only[znl]at h;cases h4:(ya8 p.names !=0)with
     |true=>
      rw[h4]at h;simp only[znm]at h;rw[h]at h4;cases h4
     |false=>
      rw[h4]at h;simp only[znl]at h;simp only[Bool.or_eq_false_iff,znz]at h1 h2;exact⟨by omega,by omega,by omega,by omega,by omega,by omega,by simpa using h3,by simpa using h4,yeN h⟩
end Go.Proofs.YtpagmlndgblhhaaGreatDoor
namespace Go.Va
open Go.Own Go.RowKit
instance:Cells Nat where
 sz:=1
 enc:=fun n=>[.int .i64 (n:Int)]
 len:=fun _=>rfl
 one:=by
  intro x v hv;simp at hv;subst hv;rfl
def yaz (c:In):Int:=bif c.op==29 then c.a else(ofL c.op).1.i
def restsL (c:In):Bool:=(ofL c.op).1.blocks||(ofL c.op).1.ends
def followN (c:In)(k:Nat):List Nat:=
 bif (ofL c.op).1.ends then[]else bif c.op==11 then[c.a.toNat]else bif (ofL c.op).1.flow then[k+1,c.a.toNat]else[k+1]
end Go.Va
namespace Go.Proofs.YtpagmlndgblhhaaGreatDoor
open Go.RowKit Go.Own Go.Own.MapTy Go.Va Go.Sort
open Go.Own.Cells (sz enc)
theorem ya0 (op:Int)(inf:Inf)(ok:Bool)(h:ofL op=(inf,ok))(W:World):Calls Tryz.prog 92 #[.int .i64 op] W (fun e w'=>e= .returned (.tuple #[.agg #[.string inf.name,.int .i64 inf.operand,.int .i64 inf.i,.int .i64 inf.o,.bool inf.blocks,.bool inf.ends,.bool inf.flow],.bool ok])∧Below W.heap.size W w'):=by
 have:=yfz op W;rw[h]at this;exact this
theorem yi3 (op a:Int)(W:World):Calls Tryz.prog 154 #[.agg #[.int .i64 op,.int .i64 a]] W fun e w'=>e= .returned (.int .i64 (yaz ⟨op,a⟩))∧Below W.heap.size W w':=by
 obtain⟨inf,ok,hof⟩:∃inf ok,ofL op=(inf,ok):=⟨_,_,rfl⟩;have OF:=zhd (ya0 op inf ok hof);have hr:yaz ⟨op,a⟩=bif op==29 then a else inf.i:=by unfold yaz;rw[hof]
 rw[hr];clear hr hof;go_enter Tryz.func154,Tryz.ntmps154;cases h29:(op==29)with
 |true=>
  go_wp2_with fail;go_ret;exact⟨rfl,zal⟩
 |false=>
  go_wp2_with fail;refine(OF.o _).mono ?_;rintro e w5 ⟨rfl,hB5⟩;have B5:=zhd (show Below W.heap.size W w5 from(zal).trans (hB5.mono (by simp)));clear hB5;go_wp2_with fail;go_ret;exact⟨rfl,B5.o.alloc B5.o.size _⟩
theorem ydI (op a:Int)(W:World):Calls Tryz.prog 135 #[.agg #[.int .i64 op,.int .i64 a]] W fun e w'=>e= .returned (.bool (restsL ⟨op,a⟩))∧Below W.heap.size W w':=by
 obtain⟨inf,ok,hof⟩:∃inf ok,ofL op=(inf,ok):=⟨_,_,rfl⟩;have OF:=zhd (ya0 op inf ok hof);have hr:restsL ⟨op,a⟩=(inf.blocks||inf.ends):=by unfold restsL;rw[hof]
 rw[hr];clear hr hof;go_enter Tryz.func135,Tryz.ntmps135;go_wp2_with fail;refine(OF.o _).mono ?_;rintro e w5 ⟨rfl,hB5⟩;have B5:=zhd (show Below W.heap.size W w5 from(zal).trans (hB5.mono (by simp)));clear hB5;cases hb:inf.blocks with
 |true=>
  go_wp2_with fail;go_ret;exact⟨by rw[hb];rfl,B5.o.alloc B5.o.size _⟩
 |false=>
  go_wp2_with fail;go_ret;exact⟨by rw[hb];rfl,B5.o.alloc B5.o.size _⟩
theorem ycV {F:Nat→Prop}{W:World}{ad:Option Addr}{n cap:Nat}{code:List In}(H:RdF F W (.slice ad n cap) code)(k:Nat)(c:In)(hc:code[k]? =some c)(ha:0≤c.a)(hk:k<65536):
  Calls Tryz.prog 136 #[.slice ad n cap,.int .i64 k] W fun e w'=>∃v,e= .returned v∧RowAt w' 3 v (followN c k)∧(∀g,v.ownBlock=some g→W.heap.size≤g)∧Below W.heap.size W w':=by
 obtain⟨rfl,hmx,g,off,had,hel⟩:=H.elems;obtain⟨hFg,hg,hcs⟩:=hel k c hc;have had:=had.resolve_right (fun e=>by rw[e]at hc;simp at hc);subst had;have m0:=hcs 0 _ rfl;have m1:=hcs 1 _ rfl;rw[show off+(k*sz In+0)=off+k*2 from rfl]at m0;rw[show off+(k*sz In+1)=off+k*2+1 from rfl]at m1;have hkn:(k:Int)<code.length:=by have:=(zge hc).1;omega
 have hw1:IntKind.i64.wrap ((k:Int)+1)=(k:Int)+1:=zmk _ (by omega);obtain⟨op,a⟩:=c;obtain⟨inf,ok,hof⟩:∃inf ok,ofL op=(inf,ok):=⟨_,_,rfl⟩;have OF:=zhd (ya0 op inf ok hof);have hr:followN ⟨op,a⟩ k=bif inf.ends then[]else bif op==11 then[a.toNat]else bif inf.flow then[k+1,a.toNat]else[k+1]:=by unfold followN;rw[hof]
 rw[hr];dsimp only at ha m0 m1;obtain⟨an,rfl⟩:∃an:Nat,a=an:=⟨a.toNat,by omega⟩;rw[Int.toNat_natCast];clear hr hof hel hcs H hc;go_enter Tryz.func136,Tryz.ntmps136;go_wp2_with fail;refine(OF.o _).mono ?_;rintro e w5 ⟨rfl,hB5⟩;have i0:w5.cell? ⟨W.heap.size,0,none⟩=some (.int .i64 op):=by rw[hB5.cell (p:=⟨W.heap.size,0,none⟩) (by simp),zch (znb _ _)];rfl
 have i1:w5.cell? ⟨W.heap.size,1,none⟩=some (.int .i64 an):=by rw[hB5.cell (p:=⟨W.heap.size,1,none⟩) (by simp),zch (znb _ _)];rfl
 have lt5:W.heap.size<w5.heap.size:=by have:=hB5.size;simp at this;omega
 have B5:Below W.heap.size W w5:=((znv _ _).alloc (znc _) (.cells #[.int .i64 op,.int .i64 an] 106)).trans (hB5.mono (by simp));have B6:=zhd (B5.alloc B5.size (.cells #[.string inf.name,.int .i64 inf.operand,.int .i64 inf.i,.int .i64 inf.o,.bool inf.blocks,.bool inf.ends,.bool inf.flow] 169));clear hB5 B5 OF;cases h1:inf.ends with
 |true=>
  rw[h1]at B6;go_wp2_with fail;go_ret;exact⟨_,rfl,by simp only[h1,znm];exact RowAt.nil _ _,fun g h=>(by cases h),B6.o⟩
 |false=>
  rw[h1]at B6;cases h2:(op==11)with
  |true=>
   go_wp2_with fail;go_ret;exact⟨_,rfl,by simp only[h1,h2,znm,znl];exact RowAt.made yar rfl rfl (by decide),yct (by omega),B6.o.alloc (by simp;omega) _⟩
  |false=>
   cases h3:inf.flow with
   |true=>
    rw[h3]at B6;go_wp2_with fail;go_ret;exact⟨_,rfl,by simp only[h1,h2,h3,znm,znl];exact RowAt.made yar rfl rfl (by decide),yct (by omega),B6.o.alloc (by simp;omega) _⟩
   |false=>
    rw[h3]at B6;go_wp2_with fail;go_ret;exact⟨_,rfl,by simp only[h1,h2,h3,znl];exact RowAt.made yar rfl rfl (by decide),yct (by omega),B6.o.alloc (by simp;omega) _⟩
end Go.Proofs.YtpagmlndgblhhaaGreatDoor
namespace Go.Va
open Go.Own Go.RowKit Go.Own.MapTy
abbrev LM:MapTy Int ByteArray:=IM ByteArray (fun s=>.string s)
def ymj (n:Int):ByteArray:=⟨(Lib.itoa n).toArray⟩
def ymf (n:Nat):ByteArray:=⟨#[108]⟩++ymj (n:Int)
def yoO:List (Int×ByteArray)→List In→List (Int×ByteArray)
 |m,[]=>m
 |m,c::r=>yoO (bif (ofL c.op).1.operand==4 then upd m c.a ⟨#[]⟩else m) r
def yoa:List (Int×ByteArray)→Nat→Nat→Nat→List (Int×ByteArray)
 |m,_,_,0=>m
 |m,i,n,f+1=>bif (MapTy.get m (i:Int)).isSome then yoa (upd m (i:Int) (ymf (n+1))) (i+1) (n+1) f else yoa m (i+1) n f
def yn9 (code:List In):List (Int×ByteArray):=yoa (yoO [] code) 0 0 code.length
def ylA (s:ByteArray):ByteArray:=⟨(ym7 s.data.toList).toArray⟩
def yoe (l:List ByteArray):ByteArray:=⟨(Lib.join (l.map (·.data.toList)) (⟨#[32]⟩:ByteArray).data.toList).toArray⟩
def ylB:Val→ByteArray
 | .mk k n s l=>bif k==1 then ymj n else bif k==2 then ylA s else bif k==3 then(⟨#[91]⟩++yoe (printsL l))++⟨#[93]⟩else⟨#[110,105,108]⟩
where printsL:List Val→List ByteArray
 |[]=>[]
 |x::r=>ylB x::printsL r
def szV:Val→Nat
 | .mk k _ s l=>bif k==2 then 4*s.size+30 else bif k==3 then szL l+30 else 30
where szL:List Val→Nat
 |[]=>0
 |x::r=>1+szV x+szL r
theorem yc5 (x:Val):szV x=bif x.kind==2 then 4*x.txt.size+30 else bif x.kind==3 then szV.szL x.list+30 else 30:=by
 cases x;rw[szV];rfl
theorem yi4 {x:Val}:∀{l:List Val},x∈l→szV x≤szV.szL l
 |[],h=>by cases h
 |y::r,h=>by
  rw[szV.szL];rcases List.mem_cons.1 h with rfl|h
  ·omega
  ·have:=yi4 h;omega
theorem yi5 (l:List Val):l.length≤szV.szL l:=by
 induction l with
 |nil=>simp
 |cons x r ih=>rw[szV.szL];simp;omega
end Go.Va
