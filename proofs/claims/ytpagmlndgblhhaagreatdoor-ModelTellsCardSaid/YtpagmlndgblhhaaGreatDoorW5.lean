/- Parts of the proof: what the functions and the plain laws give that later parts lean on. Conditions: none beyond those that each theorem names. -/
import Derived.Lib.Split
import Derived.Lib.ItoaLen
import Derived.Deep.Slices
import Derived.Deep.Fields
import Derived.ChangeSame
import Derived.OpenShut
import Derived.Test.YtpagmlndgblhhaaGreatDoorW4
set_option maxRecDepth 100000
set_option maxHeartbeats 8000000
namespace Go.Proofs.YtpagmlndgblhhaaGreatDoor
open Go.RowKit Go.Own Go.Own.MapTy Go.Va Go.Sort
open Go.Own.Cells (sz enc)
def yc5:List ByteArray->Nat->RSt->(Int×Int)×RSt
 |[],_,st=>((0,0),st)
 |l::r,n,st=>bif (lineL ((n:Int)+1) l st).1 !=0 then(((n:Int)+1,(lineL ((n:Int)+1) l st).1),(lineL ((n:Int)+1) l st).2)else yc5 r (n+1) (lineL ((n:Int)+1) l st).2
def ypu (code:List In)(at_:Nat)(tg:Int):List In:=code.modify at_ (fun c=>{c with a:=tg})
def yeh (labels:List (ByteArray×Int)):List Jp->List In->(Int×Int)×List In
 |[],code=>((0,0),code)
 |j::r,code=>match MapTy.get labels j.label with
  |none=>((j.line,120),code)
  |some tg=>bif tg==code.length then((j.line,120),code)else yeh labels r (ypu code j.at_.toNat tg)
def st0:RSt:=⟨[],[],[],0,[],[]⟩
def yfE:Img:=⟨[],[],[],0⟩
def textL (s:ByteArray):List ByteArray:=Lib.splitB ⟨#[10]⟩ 0 (Lib.countB ⟨(Lib.trimSuffix s.data.toList [10]).toArray⟩ ⟨#[10]⟩) ⟨(Lib.trimSuffix s.data.toList [10]).toArray⟩
def ypV (s:ByteArray):Img×Int×Int:=
 bif decide (65536<s.size)then(yfE,0,2)else
 bif !(Lib.hasSuffix s.data.toList [10])then(yfE,0,8)else
 let q:=yc5 (textL s) 0 st0
 bif q.1.2 !=0 then(yfE,q.1.1,q.1.2)else
 let j:=yeh q.2.labels q.2.jumps q.2.code
 bif j.1.2 !=0 then(yfE,j.1.1,j.1.2)else
 let p:Img:=⟨j.2,q.2.consts,q.2.names,q.2.places⟩
 bif imgL p !=0 then(yfE,0,imgL p)else(p,0,0)
structure Small (n:Nat)(st:RSt):Prop where
 code:st.code.length<=n
 consts:st.consts.length<=n
 names:st.names.length<=n
 jumps:st.jumps.length<=n
 p0:0<=st.places
 p1:st.places<=100
 wf:∀x∈st.consts,x.wf
 at_:∀j∈st.jumps,0<=j.at_/\j.at_.toNat<65537
theorem ymo {x:Val}{l l':List Val}{i:Nat}(h:yfV x l=(i,l')):l'.length<=l.length+1/\∀y∈l',y∈l\/y=x:=by
 unfold yfV at h;split at h
 .cases h;exact⟨by omega,fun y hy=>.inl hy⟩
 .cases h;exact⟨by simp,fun y hy=>by simpa using hy⟩
def yn7 (st:RSt):Prop:=∀j∈st.jumps,0<=j.at_/\j.at_.toNat<st.code.length
theorem ylQ {kind line:Int}{s:ByteArray}{st:RSt}(h:yn7 st):∀j∈(operL kind line s st).2.2.jumps,0<=j.at_/\j.at_.toNat<st.code.length+1:=by
 have B:∀j∈st.jumps,0<=j.at_/\j.at_.toNat<st.code.length+1:=fun j A=>by have:=h j A;omega
 unfold operL;split
 .split<;>exact B
 .split
  .split<;>exact B
  .split
   .split
    .intro j A
     simp at A;rcases A with A|rfl
     .exact B j A
     .dsimp only;omega
    .exact B
   .split
    .exact B
    .dsimp only
     split<;>exact B
theorem ylY {line:Int}{s:ByteArray}{st:RSt}(h:yn7 st):(lineL line s st).1=0->yn7 (lineL line s st).2:=by
 unfold lineL;split
 .split
  .exact fun _=>h
  .exact fun _=>h
 .split
  .exact fun _=>h
  .split
   .exact fun _=>h
   .rename_i A _
    split
    .exact fun _=>h
    .split
     .have E:=ylQ (kind:=(ofL A).1.operand) (line:=line) (s:=yda s) h
      have D:=yje (ofL A).1.operand line (yda s) st;generalize operL (ofL A).1.operand line (yda s) st=q at E D;split
      .rename_i B
       exact fun e=>absurd e B
      .intro _ j C
       have:=E j C;simp only[znk,List.length_cons,List.length_nil,D];omega
     .intro _ j C
      have:=h j C;simp only[znk,List.length_cons,List.length_nil];omega
theorem ygp:∀(ls:List ByteArray) (n:Nat) (st:RSt),yn7 st->(yc5 ls n st).1.2=0->yn7 (yc5 ls n st).2
 |[],_,_,h,_=>h
 |l::r,n,st,h,hz=>by
  rw[yc5]at hz|-;cases hb:((lineL ((n:Int)+1) l st).1 !=0)with
  |true=>
   rw[hb]at hz;simp only[znm]at hz;rw[hz]at hb;cases hb
  |false=>
   rw[hb]at hz;simp only[znl]at hz|-;exact ygp r _ _ (ylY h (by simpa using hb)) hz
theorem ylB {code:List In}{i:Nat}{x:In}(hx:code[i]? =some x)(tg:Int):ypu code i tg=code.set i {x with a:=tg}:=by
 unfold ypu;apply List.ext_getElem?;intro k;rw[List.getElem?_modify,List.getElem?_set];by_cases h:i=k
 .subst h
  obtain⟨B,A⟩:=zge hx;simp[B,A]
 .simp[h]
def ypg (w:World)(r:Img×Int×Int)(e:Ending)(w':World):Prop:=
 ∃i:IC,e= .returned (.tuple #[.agg #[.slice i.ca i.cn i.cc,.slice i.ka i.kn i.kc,.slice i.na i.nn i.nc,i.pl],.agg #[.int .i64 r.2.1,.int .i64 r.2.2]])/\IAt (fun j=>w<=j) w' i r.1/\Below w w w'
theorem ydJ (F:Nat->Prop)(w:World):IAt F w ⟨none,0,0,none,0,0,none,0,0,0⟩ yfE:=⟨RdF.nil _ _,VF.nil _ _,RdF.nil _ _,rfl⟩
def v0 (mb:Nat):RV:=⟨.slice none 0 0,.slice none 0 0,.slice none 0 0,.slice none 0 0,0,some mb⟩
theorem yoh {Z:Nat->Prop}{W:World}{b mb:Nat}(hb:W.heap[b]? =some (.cells #[.slice none 0 0,.slice none 0 0,.slice none 0 0,.int .i64 0,.map (some mb),.slice none 0 0] 97 (0,0)))(hm:W.heap[mb]? =some (.map #[] 0)):RX Z W b (v0 mb) st0:=by
 have A:mb≠b:=fun e=>by rw[e,hb]at hm;cases hm
 refine⟨hb,RowAt.nil _ _,VRow.nil _ _ _,RowAt.nil _ _,RowAt.nil _ _,rfl,fun m h=> ?_,⟨(fun j h=> ?_),(fun j h=>by cases h),(fun j h=>by cases h),(fun j h=>by cases h),(fun j h=>by cases h)⟩⟩
 .cases h
  exact⟨#[],0,hm,rfl,by simp[st0]⟩
 .cases h
  exact A
theorem yoc:Small 0 st0:=⟨znc _,znc _,znc _,znc _,by decide,by decide,(fun x h=>by cases h),(fun j h=>by cases h)⟩
def yqS (Z:Nat->Prop)(W2:World)(b:Nat)(v:RV)(st:RSt)(q:(Int×Int)×List In)(gk:Nat)(v54:Value)(wr:World):Prop:=
 ∃(k:Nat) (code:List In),v54= .int .i64 k/\k<=st.jumps.length/\gk=st.jumps.length - k/\RX Z wr b v {st with code:=code}/\code.length=st.code.length/\yeh st.labels (st.jumps.drop k) code=q/\RK b v W2 v wr
def yp8 (Z:Nat->Prop)(W2:World)(b mb:Nat)(ls:List ByteArray)(q:(Int×Int)×RSt)(gk:Nat)(v32:Value)(wr:World):Prop:=
 ∃(i:Nat) (st:RSt) (v:RV),v32= .int .i64 i/\i<=ls.length/\gk=ls.length - i/\RX Z wr b v st/\v.mb=some mb/\Small i st/\yc5 (ls.drop i) i st=q/\RK b (v0 mb) W2 v wr
theorem ykr:∀ls:List ByteArray,ls.map Value.string=ls.flatMap Cells.enc
 |[]=>rfl
 |a::r=>by rw[List.map_cons,List.flatMap_cons,ykr r];rfl
theorem ycp {mb b j:Nat}(h:Go.Va.RO (v0 mb) b j):j=b\/j=mb:=by
 rcases h with h|h|h|h|h|h
 .exact .inl h
 .exact .inr (Option.some.inj h).symm
 all_goals cases h
theorem ydX (sep:ByteArray)(n:Nat):∀(k:Nat) (s:ByteArray),s.size<=n->∀x∈Lib.splitB sep 0 k s,x.size<=n
 |0,s,h,x,hx=>by
  rw[Lib.splitB_zero,List.mem_singleton]at hx;rw[hx];exact h
 |k+1,s,h,x,hx=>by
  unfold Lib.splitB at hx;split at hx
  .rw[List.mem_singleton]at hx
   rw[hx];exact h
  .rcases List.mem_cons.1 hx with e|e
   .rw[e,ByteArray.size_extract];omega
   .exact ydX sep n k _ (by rw[ByteArray.size_extract];omega) x e
theorem yeV {S:Nat->Prop}{N:Nat}{w w':World}(h:Keeps S w w')(hs:∀j,S j->N<=j)(hN:N<=w.heap.size):Below N w w':=⟨h.os,h.tape,h.output,h.size,fun k hk=>h.block k (by omega) (fun e=>by have:=hs k e;omega)⟩
theorem ycr {S:Nat->Prop}{N:Nat}{w w':World}(K:Keeps S w w')(hs:∀j,S j->N<=j)(hN:N<=w.heap.size)(b1 b2 b3 b4 b5 b6 o1 o2 o3 o4 o5 o6:Nat)(v1 v2 v3 v4 v5 v6:Value)(h1:N<=b1)(h2:N<=b2)(h3:N<=b3)(h4:N<=b4)(h5:N<=b5)(h6:N<=b6):
  Below N w ((((((w'.setCell ⟨b1,o1,none⟩ v1).setCell ⟨b2,o2,none⟩ v2).setCell ⟨b3,o3,none⟩ v3).setCell ⟨b4,o4,none⟩ v4).setCell ⟨b5,o5,none⟩ v5).setCell ⟨b6,o6,none⟩ v6):=by
 have G:Keeps (fun j=>N<=j) w w':=K.mono (fun j _ e=>hs j e);have F:=Keeps.setCell (p:=⟨b1,o1,none⟩) G (.inl h1) v1;have E:=Keeps.setCell (p:=⟨b2,o2,none⟩) F (.inl h2) v2;have D:=Keeps.setCell (p:=⟨b3,o3,none⟩) E (.inl h3) v3;have C:=Keeps.setCell (p:=⟨b4,o4,none⟩) D (.inl h4) v4;have B:=Keeps.setCell (p:=⟨b5,o5,none⟩) C (.inl h5) v5;have A:=Keeps.setCell (p:=⟨b6,o6,none⟩) B (.inl h6) v6;exact yeV A (fun j hj=>hj) hN
theorem yj1 (w':World)(b1 b2 o1 o2 o3 o4 o5 o6:Nat)(v1 v2 v3 v4 v5 v6:Value):
  Keeps (fun j=>j=b1\/j=b2) w' ((((((w'.setCell ⟨b1,o1,none⟩ v1).setCell ⟨b1,o2,none⟩ v2).setCell ⟨b1,o3,none⟩ v3).setCell ⟨b1,o4,none⟩ v4).setCell ⟨b2,o5,none⟩ v5).setCell ⟨b2,o6,none⟩ v6):=by
 have F:Keeps (fun j=>j=b1\/j=b2) w' w':=Keeps.refl _ _;have E:=Keeps.setCell (p:=⟨b1,o1,none⟩) F (.inl (.inl rfl)) v1;have D:=Keeps.setCell (p:=⟨b1,o2,none⟩) E (.inl (.inl rfl)) v2;have C:=Keeps.setCell (p:=⟨b1,o3,none⟩) D (.inl (.inl rfl)) v3;have B:=Keeps.setCell (p:=⟨b1,o4,none⟩) C (.inl (.inl rfl)) v4;have A:=Keeps.setCell (p:=⟨b2,o5,none⟩) B (.inl (.inr rfl)) v5;exact Keeps.setCell (p:=⟨b2,o6,none⟩) A (.inl (.inr rfl)) v6
theorem yoi {w:World}{e:TypeId}{xs:List Jp}{g off n cap:Nat}(h:RowAt w e (.slice (some ⟨g,off,none⟩) n cap) xs){i:Nat}{x:Jp}(hx:xs[i]? =some x):w.cell? ⟨g,off+i*3,none⟩=some (.int .i64 x.at_)/\w.cell? ⟨g,off+i*3+1,none⟩=some (.int .i64 x.line)/\w.cell? ⟨g,off+i*3+2,none⟩=some (.string x.label):=by
 have C:=h.cell hx (j:=0) (by decide);have B:=h.cell hx (j:=1) (by decide);have A:=h.cell hx (j:=2) (by decide);exact⟨C,B,A⟩
theorem ymX {Z:Nat->Prop}{W:World}{b:Nat}{v:RV}{st:RSt}(R:RX Z W b v st){g off n cap:Nat}(hv:v.vc= .slice (some ⟨g,off,none⟩) n cap){i:Nat}{x:In}(hx:st.code[i]? =some x)(tg:Int):
  RX Z (W.setCell ⟨g,off+(i*2+1),none⟩ (.int .i64 tg)) b v {st with code:=st.code.set i {x with a:=tg}}/\RK b v W v (W.setCell ⟨g,off+(i*2+1),none⟩ (.int .i64 tg)):=by
 have A:v.vc.ownBlock=some g:=by rw[hv];rfl
 have K:Keeps (fun j=>j=g) W (W.setCell ⟨g,off+(i*2+1),none⟩ (.int .i64 tg)):=Keeps.setCell (S:=fun j=>j=g) (p:=⟨g,off+(i*2+1),none⟩) (Keeps.refl _ _) (.inl rfl) _;refine⟨⟨(K.block b (zlt R.h) (fun e=>(R.sep.c g A).1 e.symm)).trans R.h,?_,R.consts.keep K (fun j h s=>h.1 (by subst s;exact .inr (.inr (.inl A)))) (fun j hj s=>(R.sep.k j hj).2.2 (by subst s;exact A)),R.names.keep K (fun j hj s=>(R.sep.n j hj).2.2.1 (by subst s;exact A)),R.jumps.keep K (fun j hj s=>(R.sep.j j hj).2.2.1 (by subst s;exact A)),R.pl,fun m hm=>(R.labels m hm).keep K (fun s=>(R.sep.c g A).2 (by subst s;exact hm)),R.sep⟩,K.mono (fun j _ e=>by subst e;exact .inr (.inr (.inl A))),fun j h=>.inl h,rfl⟩;have:=R.code;rw[hv]at this|-;exact this.setOne hx (j:=1) (u:=.int .i64 tg) (by decide) rfl
theorem yqB (w:World)(o0 o1 o2 o3 o4:Obj):
  (((((w.alloc o0).alloc o1).alloc o2).alloc o3).alloc o4).heap[w.heap.size]? =some o0/\(((((w.alloc o0).alloc o1).alloc o2).alloc o3).alloc o4).heap[w.heap.size+1]? =some o1/\(((((w.alloc o0).alloc o1).alloc o2).alloc o3).alloc o4).heap[w.heap.size+1+1]? =some o2/\(((((w.alloc o0).alloc o1).alloc o2).alloc o3).alloc o4).heap[w.heap.size+1+1+1]? =some o3/\(((((w.alloc o0).alloc o1).alloc o2).alloc o3).alloc o4).heap[w.heap.size+4]? =some o4:=by
 have H:(w.alloc o0).heap.size=w.heap.size+1:=by simp
 have G:((w.alloc o0).alloc o1).heap.size=w.heap.size+1+1:=by simp
 have F:(((w.alloc o0).alloc o1).alloc o2).heap.size=w.heap.size+1+1+1:=by simp
 have E:((((w.alloc o0).alloc o1).alloc o2).alloc o3).heap.size=w.heap.size+4:=by simp
 have I:=znb w o0;have D:=znb (w.alloc o0) o1;have C:=znb ((w.alloc o0).alloc o1) o2;have B:=znb (((w.alloc o0).alloc o1).alloc o2) o3;have A:=znb ((((w.alloc o0).alloc o1).alloc o2).alloc o3) o4;rw[H]at D;rw[G]at C;rw[F]at B;rw[E]at A;refine⟨?_,?_,?_,?_,A⟩
 .exact(zne _ _ _ (by omega)).trans ((zne _ _ _ (by omega)).trans ((zne _ _ _ (by omega)).trans ((zne _ _ _ (by omega)).trans I)))
 .exact(zne _ _ _ (by omega)).trans ((zne _ _ _ (by omega)).trans ((zne _ _ _ (by omega)).trans D))
 .exact(zne _ _ _ (by omega)).trans ((zne _ _ _ (by omega)).trans C)
 .exact(zne _ _ _ (by omega)).trans B
structure LineLaw (N:Nat)(x:ByteArray):Prop where
 run:∀{Z:Nat->Prop} (b:Nat) (v:RV) (st:RSt) (n:Int) (W:World),RX Z W b v st->Gl Tryz.prog N W->(∀j,W.heap.size<=j->Z j)->∀m,v.mb=some m->st.consts.length<=65536->st.names.length<=65536->st.jumps.length<=65536->st.code.length<=65536->0<=st.places/\st.places<=100->Calls Tryz.prog 47 #[.pointer (some ⟨b,0,none⟩),n,x] W (ynX Z W b v (lineL n x st))
 small:∀(line:Int) (n:Nat) (st:RSt),n<=65536->Small n st->Small (n+1) (lineL line x st).2
theorem ye0 {s:ByteArray}:∀x∈textL s,x.size<=s.size:=by
 have A:(⟨(Lib.trimSuffix s.data.toList [10]).toArray⟩:ByteArray).size<=s.size:=by
  have B:(⟨(Lib.trimSuffix s.data.toList [10]).toArray⟩:ByteArray).size=(Lib.trimSuffix s.data.toList [10]).length:=by show(Lib.trimSuffix s.data.toList [10]).toArray.size=_;simp
  rw[B];unfold Lib.trimSuffix;split<;>simp
 exact fun x hx=>ydX ⟨#[10]⟩ s.size _ _ A x hx
theorem yk9 {N:Nat}(s:ByteArray)(w:World)(G:Gl Tryz.prog N w)(h:s.size<=65536)(hn:Lib.hasSuffix s.data.toList [10]=true)(LW:∀x∈textL s,LineLaw N x)(q:(Int×Int)×RSt)(hq:yc5 (textL s) 0 st0=q)(r:Img×Int×Int)
  (hr:(bif q.1.2 !=0 then(yfE,q.1.1,q.1.2)else
    let j:=yeh q.2.labels q.2.jumps q.2.code
    bif j.1.2 !=0 then(yfE,j.1.1,j.1.2)else
    let p:Img:=⟨j.2,q.2.consts,q.2.names,q.2.places⟩
    bif imgL p !=0 then(yfE,0,imgL p)else(p,0,0))=r):
  Calls Tryz.prog 10 #[s] w (ypg w r):=by
 have e1:¬(65536:Int)<s.size:=by omega
 obtain⟨t,ht⟩:∃t:ByteArray,t=⟨(Lib.trimSuffix s.data.toList [10]).toArray⟩:=⟨_,rfl⟩;have Bb:t.size<=s.size:=by
  have e2:t.size=(Lib.trimSuffix s.data.toList [10]).length:=by rw[ht];show(Lib.trimSuffix s.data.toList [10]).toArray.size=_;simp
  rw[e2];unfold Lib.trimSuffix;split<;>simp
 have A3:=zhd (show∀W,Calls Tryz.prog 45 #[s,.string ⟨#[10]⟩] W (fun e w'=>e= .returned (.tuple #[t,.bool true])/\w'=W)from fun W=>(Any.strings_CutSuffix Tryz.lays104 s ⟨#[10]⟩ W (by omega)).mono fun e w' ⟨j1,j2⟩=>⟨by rw[j1,show(⟨#[10]⟩:ByteArray).data.toList=[10]from rfl,hn,ht],j2⟩);have Ar:(Tryz.prog.info? 9).map (fun i=>(i.zero,i.size,i.bytes))=some (some (.string ByteArray.empty),1,16):=by kernel_rfl
 have Az:=zhd (show∀W,Gl Tryz.prog N W->Calls Tryz.prog 46 #[t,.string ⟨#[10]⟩] W (fun e w'=>e= .returned (.slice (some ⟨W,0,none⟩) (textL s).length (textL s).length)/\w'=W.alloc (.cells ((textL s).map Value.string).toArray 9))from fun W GW=>by
  obtain⟨m,hm⟩:=GW.m;have Af:(textL s).length=Lib.countB t ⟨#[10]⟩+1:=by
   unfold textL;rw[<-ht];exact Lib.splitB_all ⟨#[10]⟩ (by decide) 0 _ t rfl
  refine(Any.strings_Split Tryz.lays146 Ar t ⟨#[10]⟩ m W (by omega) hm (by decide)).mono fun e w' ⟨j1,j2⟩=>⟨by rw[j1,Af],?_⟩;rw[j2];unfold textL;rw[<-ht];rfl)
 have Af:(textL s).length<=65537:=by
  have e2:(textL s).length=Lib.countB t ⟨#[10]⟩+1:=by
   unfold textL;rw[<-ht];exact Lib.splitB_all ⟨#[10]⟩ (by decide) 0 _ t rfl
  have:=Lib.countB_le ⟨#[10]⟩ (by decide) t.size t (znc _);omega
 have Au:=zhd LW;have HQ:=zh2 hq hr;clear hq hr Ar ht hn LW;generalize textL s=ls at*;have HN:=zhd G.n;have Bc:= @run_makeMap Tryz.prog;go_in;go_wp2_with fail;refine(A3.o _).mono ?_;rintro e w1 ⟨rfl,rfl⟩;go_wp2_with fail;refine(Az.o _ ((((G.alloc _).alloc _).alloc _).alloc _)).mono ?_;rintro e w1 ⟨rfl,rfl⟩;obtain⟨W2,Ab⟩:∃W2,W2=(((((w.alloc (.cells #[.slice none 0 0,.slice none 0 0,.slice none 0 0,.int .i64 0] 28)).alloc (.cells #[.int .i64 0,.int .i64 0] 31)).alloc (.map #[] 0)).alloc (.cells #[.slice none 0 0,.slice none 0 0,.slice none 0 0,.int .i64 0,.map (some (w.heap.size+1+1)),.slice none 0 0] 97)).alloc (.cells (ls.map Value.string).toArray 9)):=⟨_,rfl⟩;have J:W2.heap.size=w.heap.size+5:=by rw[Ab];simp
 have B2:Below w w W2:=by
  rw[Ab];exact((((zal).alloc (by simp) _).alloc (by simp;omega) _).alloc (by simp;omega) _).alloc (by simp;omega) _
 obtain⟨c0,c1,c2,c3,c4⟩:=Ab▸yqB w (.cells #[.slice none 0 0,.slice none 0 0,.slice none 0 0,.int .i64 0] 28) (.cells #[.int .i64 0,.int .i64 0] 31) (.map #[] 0) (.cells #[.slice none 0 0,.slice none 0 0,.slice none 0 0,.int .i64 0,.map (some (w.heap.size+1+1)),.slice none 0 0] 97) (.cells (ls.map Value.string).toArray 9);have e4:((((w.alloc (.cells #[.slice none 0 0,.slice none 0 0,.slice none 0 0,.int .i64 0] 28)).alloc (.cells #[.int .i64 0,.int .i64 0] 31)).alloc (.map #[] 0)).alloc (.cells #[.slice none 0 0,.slice none 0 0,.slice none 0 0,.int .i64 0,.map (some (w.heap.size+1+1)),.slice none 0 0] 97)).heap.size=w.heap.size+4:=by simp
 rw[<-Ab,e4];have As:=yoh (Z:=fun j=>w.heap.size+5<=j) c3 c2;have RL:RowAt W2 9 (.slice (some ⟨w.heap.size+4,0,none⟩) ls.length ls.length) ls:=RowAt.made c4 (by rw[List.toList_toArray];exact ykr ls) rfl (by simp only[maxLen];omega);have G2:=G.below B2;have I:=zh7 c0 c1 As RL B2 G2 J;have A1:=zhd c4;clear c0 c1 c2 c3 c4 As RL B2 G2 J Ab e4 G;go_wp2_with fail;go_loopg [32] (ls.length) (fun gk v32 wr=>yp8 (fun j=>w.heap.size+5<=j) W2 (w.heap.size+1+1+1) (w.heap.size+1+1) ls q gk v32 wr)
 case atStart=>exact⟨0,st0,v0 _,rfl,znq _,rfl,I.o.2.2.1,rfl,yoc,HQ.o.1,RK.refl _ _ _⟩
 case round=>
  obtain⟨i,B,v,rfl,hi,d,M,Ae,P,F,Y⟩:=hrel;by_cases hin:i<ls.length
  .obtain⟨x,hx⟩:=yae hin
   have z:ls.drop i=x::ls.drop (i+1):=by
    rw[znr (zge hx).1,(zge hx).2]
   rw[z,yc5]at F;have Ao:=Au.o x (zmg hx);have Bg:N<=w.heap.size:=by have:=I.o.2.2.2.2.2.1;have:=HN.o;omega
   have A0:=I.o.2.2.2.1.keep Y.1 (fun g hg e=>by
    have Be:w.heap.size+4=g:=Option.some.inj hg;have:=ycp e;omega)
   have Gr:Gl Tryz.prog N wr:=I.o.2.2.2.2.2.1.keep Y.1 (fun j hj=>by have:=ycp hj;omega);have Bf:wr.cell? ⟨w.heap.size+4,i,none⟩=some (.string x):=by
    have Ay:=(Y.1.block (w.heap.size+4) (by have:=I.o.2.2.2.2.2.2;omega) (fun e=>by have:=ycp e;omega)).trans A1.o;rw[zch Ay];simp[hx]
   have Ad:w.heap.size+5<=wr.heap.size:=by have:=Y.1.size;have:=I.o.2.2.2.2.2.2;omega
   have LA:=zhd (Ao.run (w.heap.size+1+1+1) v B ((i:Int)+1) wr M Gr (fun j hj=>by omega) (w.heap.size+1+1) Ae (by have:=P.consts;omega) (by have:=P.names;omega) (by have:=P.jumps;omega) (by have:=P.code;omega) ⟨P.p0,P.p1⟩);have HS:=zhd (Ao.small ((i:Int)+1) i B (by omega) P);generalize lineL ((i:Int)+1) x B=lr at*;have U:=zh5 F Y d Ad A0;have Ba:IntKind.i64.wrap ((i:Int)+1)=(i:Int)+1:=zmk _ (by omega);clear F Y d Ad z P;go_wp2_with fail;refine LA.o.mono ?_;rintro e w5 ⟨v5,rfl,H5⟩;cases hz:(lr.1 !=0)with
   |true=>
    have hq:(((i:Int)+1,lr.1),lr.2)=q:=by have:=U.o.1;rw[hz]at this;exact this
    have hr:=HQ.o.2;rw[<-hq]at hr;dsimp only at hr;rw[hz]at hr;simp only[znm]at hr;have HR:=zhd hr;have b:=U.o.2.1.1.trans H5.o.2.1 (fun j hj e=>(U.o.2.1.2.1 j e).resolve_right (by omega));have J:=I.o.2.2.2.2.2.2;have E:=(b.block w (by omega) (fun e=>by have:=ycp e;omega)).trans I.o.1;have Q:=(b.block (w.heap.size+1) (by omega) (fun e=>by have:=ycp e;omega)).trans I.o.2.1;have u:∀o,w5.cell? ⟨w,o,none⟩=(#[.slice none 0 0,.slice none 0 0,.slice none 0 0,.int .i64 0]:Array Value)[o]? :=fun o=>by rw[zch E]
    have q1:∀o,w5.cell? ⟨w.heap.size+1,o,none⟩=(#[.int .i64 0,.int .i64 0]:Array Value)[o]? :=fun o=>by rw[zch Q]
    have p0:=u 0;have p1:=u 1;have p2:=u 2;have p3:=u 3;have p4:=q1 0;have p5:=q1 1;simp only[zmc,zma,zmb]at p0 p1 p2 p3 p4 p5;have l5:w.heap.size+5<=w5.heap.size:=by have:=b.size;omega
    have l0:w<w5.heap.size:=by omega
    have l1:w.heap.size+1<w5.heap.size:=by omega
    have BB:=I.o.2.2.2.2.1.trans (ycr (N:=w.heap.size) b (fun j e=>by have:=ycp e;omega) (by omega) w.heap.size w.heap.size w.heap.size w.heap.size (w.heap.size+1) (w.heap.size+1) 0 1 2 3 0 1 (.slice none 0 0) (.slice none 0 0) (.slice none 0 0) (.int .i64 0) (.int .i64 ((i:Int)+1)) (.int .i64 lr.1) (by omega) (by omega) (by omega) (by omega) (by omega) (by omega));replace BB:=zhd BB;have z0:=zfr E 0;have z1:=zfr E 1;have z2:=zfr E 2;have z3:=zfr E 3;have y0:=zfr Q 0;have y1:=zfr Q 1;clear hq hr b E Q u q1 J;go_wp2_with fail;exact zng (v:=.tuple #[.agg #[.slice none 0 0,.slice none 0 0,.slice none 0 0,.int .i64 0],.agg #[.int .i64 ((i:Int)+1),.int .i64 lr.1]]) (by simp only[results,Tryz.results10];go_simp) rfl ⟨⟨none,0,0,none,0,0,none,0,0,0⟩,by rw[<-HR.o],by rw[<-HR.o];exact ydJ _ _,BB.o⟩
   |false=>
    have hl:=U.o.1;rw[hz]at hl;simp only[znl]at hl;have HC:=zhd hl;clear hl;go_wp2_with fail;go_roundg (ls.length - (i+1))
    case measure=>have:=U.o.2.2.1;omega
    case rel=>exact⟨i+1,lr.2,v5,by simp,by omega,rfl,H5.o.1,H5.o.2.2.2.trans Ae,HS.o,HC.o,U.o.2.1.trans H5.o.2⟩
  .obtain rfl:i=ls.length:=by omega
   have Aa:ls.drop ls.length=[]:=zns (znc _);rw[Aa,yc5]at F;have hr:=HQ.o.2;rw[<-F]at hr;simp only[bne_self_eq_false,znl]at hr;have HR:=zhd hr;have q5:=zca M.h 5 rfl;have Ad:w.heap.size+5<=wr.heap.size:=by have:=Y.1.size;have:=I.o.2.2.2.2.2.2;omega
   have l3:w.heap.size+1+1+1<wr.heap.size:=by omega
   obtain⟨ja,jc,Aq⟩:=M.jumps.slice;rw[Aq]at q5;have A2:=zhd (show yn7 B from by
    have h0:=ygp ls 0 st0 (fun j hj=>by cases hj) (by rw[HQ.o.1,<-F]);rw[HQ.o.1,<-F]at h0;exact h0)
   have U:=zh4 M Ae P Y;obtain⟨wm,Ap⟩:∃wm,wm=wr:=⟨_,rfl⟩;rw[<-Ap]at q5 Ad l3 U|-;clear hr F Aa M Ae P Y Ap;go_wp2_with fail;go_loopg [54] (B.jumps.length) (fun gk v54 wz=>yqS (fun j=>w.heap.size+5<=j) wm (w.heap.size+1+1+1) v B (yeh B.labels B.jumps B.code) gk v54 wz)
   case atStart=>exact⟨0,B.code,rfl,znq _,rfl,U.o.1,rfl,rfl,RK.refl _ _ _⟩
   case round=>
    obtain⟨k,code,rfl,hk,d,M,Ak,A,Y⟩:=hrel;by_cases hkn:k<B.jumps.length
    .obtain⟨x,hx⟩:=yae hkn
     have z:B.jumps.drop k=x::B.jumps.drop (k+1):=by
      rw[znr (zge hx).1,(zge hx).2]
     rw[z,yeh]at A;have RJ:=M.jumps;rw[Aq]at RJ;obtain⟨jg,A4,Av,Bd⟩:=RJ.addr hx;subst Av;obtain⟨x0,x1,x2⟩:=yoi RJ hx;have qq:∀o,wr.cell? ⟨w.heap.size+1+1+1,o,none⟩=(#[v.vc,v.vk,v.vn,.int .i64 v.pl,.map v.mb,v.vj]:Array Value)[o]? :=fun o=>by rw[zch M.h]
     have u:=qq 0;have q4:=qq 4;simp only[zmc,zma,zmb]at u q4;rw[U.o.2.1]at q4;have lz:w.heap.size+1+1+1<wr.heap.size:=zlt M.h;obtain⟨ca,cc,V⟩:=M.code.slice;rw[V]at u;have Ai:=ylV (M.labels _ U.o.2.1) x.label;have A5:w.heap.size+1+1<wr.heap.size:=by omega
     clear qq;obtain⟨y,hy⟩:∃y,MapTy.get B.labels x.label=y:=⟨_,rfl⟩;rw[hy]at Ai A;have HG:=zh4 Ak d M Y;clear Ak d M Y z;cases y with
     |none=>
      simp only[Option.getD_none,Option.isSome_none]at Ai A;have hr:=HR.o;rw[<-A]at hr;simp only[show((120:Int)!=0)=true from rfl,znm]at hr;have O:=zhd hr;have b:=(U.o.2.2.2.trans HG.o.2.2.2).1;have D:=zh2 A b;clear hr A b;go_wp2_with fail;obtain⟨w6,L⟩:∃w6,w6=wr.alloc (.cells #[x.at_,x.line,x.label] 103):=⟨_,rfl⟩;have R:=zba L;have j1:w6.cell? ⟨wr,1,none⟩=some (.int .i64 x.line):=by rw[L,zch (znb _ _)];rfl
      have l6:w6.heap.size=wr.heap.size+1:=by rw[L];simp
      have K6:Keeps (fun j=>w.heap.size+2<=j) wr w6:=Keeps.mono (zkb R (S:=fun _=>False)) (fun _ _ f=>f.elim);rw[<-L];have J:=I.o.2.2.2.2.2.2;have E:=(R.block _ (by omega)).trans ((D.o.2.block w (by omega) (fun e=>by have:=ycp e;omega)).trans I.o.1);have Q:=(R.block _ (by omega)).trans ((D.o.2.block (w.heap.size+1) (by omega) (fun e=>by have:=ycp e;omega)).trans I.o.2.1);have C:∀o,w6.cell? ⟨w,o,none⟩=(#[.slice none 0 0,.slice none 0 0,.slice none 0 0,.int .i64 0]:Array Value)[o]? :=fun o=>by rw[zch E]
      have K:∀o,w6.cell? ⟨w.heap.size+1,o,none⟩=(#[.int .i64 0,.int .i64 0]:Array Value)[o]? :=fun o=>by rw[zch Q]
      have p0:=C 0;have p1:=C 1;have p2:=C 2;have p3:=C 3;have p4:=K 0;have p5:=K 1;simp only[zmc,zma,zmb]at p0 p1 p2 p3 p4 p5;have z0:=zfr E 0;have z1:=zfr E 1;have z2:=zfr E 2;have z3:=zfr E 3;have y0:=zfr Q 0;have y1:=zfr Q 1;have l0:w<w6.heap.size:=by omega
      have l1:w.heap.size+1<w6.heap.size:=by omega
      have l7:wr<w6.heap.size:=by omega
      have d1:¬wr.heap.size=w.heap.size:=by omega
      have d2:¬wr.heap.size=w.heap.size+1:=by omega
      have H6:=zh3 R l6 K6;have K7:=D.o.2.trans (T:=fun j=>wr<=j) (Keeps.mono (zkb R (S:=fun _=>False)) (fun _ _ f=>f.elim)) (fun j hj e=>by have:=D.o.2.size;omega);have BB:=zhd (I.o.2.2.2.2.1.trans (ycr (N:=w.heap.size) K7 (fun j e=>by have:=ycp e;omega) (by omega) w.heap.size w.heap.size w.heap.size w.heap.size (w.heap.size+1) (w.heap.size+1) 0 1 2 3 0 1 (.slice none 0 0) (.slice none 0 0) (.slice none 0 0) (.int .i64 0) (.int .i64 x.line) (.int .i64 120) (by omega) (by omega) (by omega) (by omega) (by omega) (by omega)));clear L R l6 K6 K7 E Q C K J;go_region;go_wp2_with fail;exact zng (v:=.tuple #[.agg #[.slice none 0 0,.slice none 0 0,.slice none 0 0,.int .i64 0],.agg #[x.line,.int .i64 120]]) (by simp only[results,Tryz.results10];go_simp) rfl ⟨⟨none,0,0,none,0,0,none,0,0,0⟩,by rw[<-O.o],by rw[<-O.o];exact ydJ _ _,BB.o.drew⟩
     |some tg=>
      simp only[Option.getD_some,Option.isSome_some]at Ai A;cases X:(tg==(code.length:Int))with
      |true=>
       rw[X]at A;simp only[znm]at A;have hr:=HR.o;rw[<-A]at hr;simp only[show((120:Int)!=0)=true from rfl,znm]at hr;have O:=zhd hr;have b:=(U.o.2.2.2.trans HG.o.2.2.2).1;have D:=zh2 A b;clear hr A b;go_wp2_with fail;obtain⟨w6,L⟩:∃w6,w6=wr.alloc (.cells #[x.at_,x.line,x.label] 103):=⟨_,rfl⟩;have R:=zba L;have j1:w6.cell? ⟨wr,1,none⟩=some (.int .i64 x.line):=by rw[L,zch (znb _ _)];rfl
       have l6:w6.heap.size=wr.heap.size+1:=by rw[L];simp
       have K6:Keeps (fun j=>w.heap.size+2<=j) wr w6:=Keeps.mono (zkb R (S:=fun _=>False)) (fun _ _ f=>f.elim);rw[<-L];have J:=I.o.2.2.2.2.2.2;have E:=(R.block _ (by omega)).trans ((D.o.2.block w (by omega) (fun e=>by have:=ycp e;omega)).trans I.o.1);have Q:=(R.block _ (by omega)).trans ((D.o.2.block (w.heap.size+1) (by omega) (fun e=>by have:=ycp e;omega)).trans I.o.2.1);have C:∀o,w6.cell? ⟨w,o,none⟩=(#[.slice none 0 0,.slice none 0 0,.slice none 0 0,.int .i64 0]:Array Value)[o]? :=fun o=>by rw[zch E]
       have K:∀o,w6.cell? ⟨w.heap.size+1,o,none⟩=(#[.int .i64 0,.int .i64 0]:Array Value)[o]? :=fun o=>by rw[zch Q]
       have p0:=C 0;have p1:=C 1;have p2:=C 2;have p3:=C 3;have p4:=K 0;have p5:=K 1;simp only[zmc,zma,zmb]at p0 p1 p2 p3 p4 p5;have z0:=zfr E 0;have z1:=zfr E 1;have z2:=zfr E 2;have z3:=zfr E 3;have y0:=zfr Q 0;have y1:=zfr Q 1;have l0:w<w6.heap.size:=by omega
       have l1:w.heap.size+1<w6.heap.size:=by omega
       have l7:wr<w6.heap.size:=by omega
       have d1:¬wr.heap.size=w.heap.size:=by omega
       have d2:¬wr.heap.size=w.heap.size+1:=by omega
       have H6:=zh3 R l6 K6;have K7:=D.o.2.trans (T:=fun j=>wr<=j) (Keeps.mono (zkb R (S:=fun _=>False)) (fun _ _ f=>f.elim)) (fun j hj e=>by have:=D.o.2.size;omega);have BB:=zhd (I.o.2.2.2.2.1.trans (ycr (N:=w.heap.size) K7 (fun j e=>by have:=ycp e;omega) (by omega) w.heap.size w.heap.size w.heap.size w.heap.size (w.heap.size+1) (w.heap.size+1) 0 1 2 3 0 1 (.slice none 0 0) (.slice none 0 0) (.slice none 0 0) (.int .i64 0) (.int .i64 x.line) (.int .i64 120) (by omega) (by omega) (by omega) (by omega) (by omega) (by omega)));clear L R l6 K6 K7 E Q C K J;go_region;go_wp2_with fail;exact zng (v:=.tuple #[.agg #[.slice none 0 0,.slice none 0 0,.slice none 0 0,.int .i64 0],.agg #[x.line,.int .i64 120]]) (by simp only[results,Tryz.results10];go_simp) rfl ⟨⟨none,0,0,none,0,0,none,0,0,0⟩,by rw[<-O.o],by rw[<-O.o];exact ydJ _ _,BB.o.drew⟩
      |false=>
       rw[X]at A;simp only[znl]at A;have Al:=A2.o x (zmg hx);rw[<-HG.o.1]at Al;obtain⟨c,hc⟩:=yae Al.2;rw[ylB hc]at A;have RC:=HG.o.2.2.1.code;dsimp only at RC;rw[V]at RC;obtain⟨cg,H,Ax,A7⟩:=RC.addr hc;subst Ax;obtain⟨i,hi⟩:∃i:Nat,i=x.at_.toNat:=⟨_,rfl⟩;rw[<-hi]at hc A;have Am:x.at_=(i:Int):=by omega
       rw[Am]at x0;have A6:i<code.length:=by omega
       have u1:=RC.cell hc (j:=1) (by decide);have u0:=RC.cell hc (j:=0) (by decide);rw[show H+(i*sz In+1)=H+i*2+1 from rfl]at u1;rw[show H+(i*sz In+0)=H+i*2 from rfl]at u0;have fz:=RC.frozen (H+i*2+1);have Bh:=RC.frozen (H+i*2);have A8:cg<wr.heap.size:=RC.lt rfl;have PK:=zhd (ymX HG.o.2.2.1 V hc tg);have A9:IntKind.i64.wrap ((k:Int)+1)=(k:Int)+1:=zmk _ (by have:=U.o.2.2.1.jumps;omega);rw[show H+(i*2+1)=H+i*2+1 from rfl]at PK;have HJ:=zh2 A Am;clear A Am RC Al hi;go_wp2_with fail;go_roundg (B.jumps.length - (k+1))
       case measure=>have:=HG.o.2.1;omega
       case rel=>exact⟨k+1,code.set i {c with a:=tg},by simp,by omega,rfl,PK.o.1.ext ((znv _ _).alloc (by simp) _),by rw[List.length_set];exact HG.o.1,HJ.o.1,HG.o.2.2.2.trans (PK.o.2.trans (RK.ext ((znv _ _).alloc (by simp) _)))⟩
    .obtain rfl:k=B.jumps.length:=by omega
     have Aa:B.jumps.drop B.jumps.length=[]:=zns (znc _);rw[Aa,yeh]at A;have hr:=HR.o;rw[<-A]at hr;simp only[bne_self_eq_false,znl]at hr;have qq:∀o,wr.cell? ⟨w.heap.size+1+1+1,o,none⟩=(#[v.vc,v.vk,v.vn,.int .i64 v.pl,.map v.mb,v.vj]:Array Value)[o]? :=fun o=>by rw[zch M.h]
     have u:=qq 0;have q1:=qq 1;have q2:=qq 2;have q3:=qq 3;simp only[zmc,zma,zmb]at u q1 q2 q3;have lz:w.heap.size+1+1+1<wr.heap.size:=zlt M.h;obtain⟨ca,cc,V⟩:=M.code.slice;obtain⟨ka,kc,Ah⟩:=M.consts.slice;obtain⟨na,nc,Ag⟩:=M.names.slice;have At:=I.o.2.2.2.2.2.2;have X:∀j,Go.Va.RO v (w.heap.size+1+1+1) j->w.heap.size+2<=j:=fun j e=>by
      rcases U.o.2.2.2.2.1 j e with h|h
      .have:=ycp h
       omega
      .omega
     have hI:IAt (fun j=>w.heap.size+2<=j) wr ⟨ca,code.length,cc,ka,B.consts.length,kc,na,B.names.length,nc,v.pl⟩ ⟨code,B.consts,B.names,B.places⟩:=
      ⟨by rw[<-V];exact RdF.of_row M.code (fun g h=>X g (.inr (.inr (.inl h)))),by rw[<-Ah];exact VRow.vf M.consts (fun g h=>by have:=h.2;show w.heap.size+2<=g;omega) (fun g h=>X g (.inr (.inr (.inr (.inl h))))),by rw[<-Ag];exact RdF.of_row M.names (fun g h=>X g (.inr (.inr (.inr (.inr (.inl h)))))),M.pl⟩
     rw[V]at u;rw[Ah]at q1;rw[Ag]at q2;obtain⟨ir,Aj⟩:∃ir,imgL ⟨code,B.consts,B.names,B.places⟩=ir:=⟨_,rfl⟩;rw[Aj]at hr;have IC:=zhd (fun W (hW:Below wr wr W)=>yct _ W _ _ (hI.keep (S:=fun _=>False) (zkb hW) (fun _ _ f=>f)) _ U.o.2.2.1.wf Aj);have b:=(U.o.2.2.2.trans Y).1;have D:=zh3 hr b hI;clear hr b hI X qq V Ah Ag Aa A M Y Ak d Aj At;generalize v.pl=vpl at*;go_wp2_with fail;refine(IC.o _ (zal)).mono ?_;rintro e w6 ⟨rfl,An⟩;have R:Below wr wr w6:=((znv _ _).alloc (znc _) (.cells #[.slice ca code.length cc,.slice ka B.consts.length kc,.slice na B.names.length nc,vpl] 28)).trans (An.mono (by simp));have J:=I.o.2.2.2.2.2.2;have E:=(R.block _ (by omega)).trans ((D.o.2.1.block w (by omega) (fun e=>by have:=ycp e;omega)).trans I.o.1);have Q:=(R.block _ (by omega)).trans ((D.o.2.1.block (w.heap.size+1) (by omega) (fun e=>by have:=ycp e;omega)).trans I.o.2.1);have b2:=(An.block wr (by simp)).trans (znb wr _)
     have C:∀o,w6.cell? ⟨w,o,none⟩=(#[.slice none 0 0,.slice none 0 0,.slice none 0 0,.int .i64 0]:Array Value)[o]? :=fun o=>by rw[zch E]
     have K:∀o,w6.cell? ⟨w.heap.size+1,o,none⟩=(#[.int .i64 0,.int .i64 0]:Array Value)[o]? :=fun o=>by rw[zch Q]
     have l:∀o,w6.cell? ⟨wr,o,none⟩=(#[.slice ca code.length cc,.slice ka B.consts.length kc,.slice na B.names.length nc,.int .i64 vpl]:Array Value)[o]? :=fun o=>by rw[zch b2]
     have p0:=C 0;have p1:=C 1;have p2:=C 2;have p3:=C 3;have p4:=K 0;have p5:=K 1;have p6:=l 0;have p7:=l 1;have p8:=l 2;have p9:=l 3;simp only[zmc,zma,zmb]at p0 p1 p2 p3 p4 p5 p6 p7 p8 p9;have z0:=zfr E 0;have z1:=zfr E 1;have z2:=zfr E 2;have z3:=zfr E 3;have y0:=zfr Q 0;have y1:=zfr Q 1;have l6:wr<w6.heap.size:=zlt b2;have l0:w<w6.heap.size:=by omega
     have l1:w.heap.size+1<w6.heap.size:=by omega
     have d1:¬wr.heap.size=w.heap.size:=by omega
     have d2:¬wr.heap.size=w.heap.size+1:=by omega
     have K7:=D.o.2.1.trans (T:=fun j=>wr<=j) (Keeps.mono (zkb R (S:=fun _=>False)) (fun _ _ f=>f.elim)) (fun j hj e=>by have:=D.o.2.1.size;omega);have Ac:=zh3 K7 R J;clear An E Q b2 C K l K7 R J IC;cases hz:(ir !=0)with
     |true=>
      have hr:=D.o.1;rw[hz]at hr;simp only[znm]at hr;have O:=zhd hr;have BB:=zhd (I.o.2.2.2.2.1.trans (ycr (N:=w.heap.size) Ac.o.1 (fun j e=>by have:=ycp e;omega) (by have:=Ac.o.2.2;omega) w.heap.size w.heap.size w.heap.size w.heap.size (w.heap.size+1) (w.heap.size+1) 0 1 2 3 0 1 (.slice none 0 0) (.slice none 0 0) (.slice none 0 0) (.int .i64 0) (.int .i64 0) (.int .i64 ir) (by omega) (by omega) (by omega) (by omega) (by omega) (by omega)));clear hr;go_wp2_with fail;exact zng (v:=.tuple #[.agg #[.slice none 0 0,.slice none 0 0,.slice none 0 0,.int .i64 0],.agg #[.int .i64 0,ir]]) (by simp only[results,Tryz.results10];go_simp) rfl ⟨⟨none,0,0,none,0,0,none,0,0,0⟩,by rw[<-O.o],by rw[<-O.o];exact ydJ _ _,BB.o⟩
     |false=>
      have hr:=D.o.1;rw[hz]at hr;simp only[znl]at hr;have O:=zhd hr;have BB:=zhd (I.o.2.2.2.2.1.trans (ycr (N:=w.heap.size) Ac.o.1 (fun j e=>by have:=ycp e;omega) (by have:=Ac.o.2.2;omega) w.heap.size w.heap.size w.heap.size w.heap.size (w.heap.size+1) (w.heap.size+1) 0 1 2 3 0 1 (.slice ca code.length cc) (.slice ka B.consts.length kc) (.slice na B.names.length nc) (.int .i64 vpl) (.int .i64 0) (.int .i64 0) (by omega) (by omega) (by omega) (by omega) (by omega) (by omega)));have KI:=zhd (((D.o.2.2.keep (S:=fun _=>False) (zkb Ac.o.2.1) (fun _ _ f=>f)).keep (yj1 w6 w.heap.size (w.heap.size+1) 0 1 2 3 0 1 (.slice ca code.length cc) (.slice ka B.consts.length kc) (.slice na B.names.length nc) (.int .i64 vpl) (.int .i64 0) (.int .i64 0)) (fun g h e=>by rcases e with e|e<;>omega)).mono (G:=fun j=>w<=j) (fun g h _=>by show w<=g;omega));clear hr;go_wp2_with fail
      exact zng (v:=.tuple #[.agg #[.slice ca code.length cc,.slice ka B.consts.length kc,.slice na B.names.length nc,vpl],.agg #[.int .i64 0,.int .i64 0]]) (by simp only[results,Tryz.results10];go_simp) rfl ⟨⟨ca,code.length,cc,ka,B.consts.length,kc,na,B.names.length,nc,vpl⟩,by rw[<-O.o],by rw[<-O.o];exact KI.o,BB.o⟩
theorem yfi {p:Img}:∀{l:List In},ybF p l=0->∀c∈l,(ofL c.op).2=true/\0<=c.a/\c.a<mostL p (ofL c.op).1.operand
 |[],_,c,hc=>by cases hc
 |d::r,h,c,hc=>by
  rw[ybF]at h;cases h1:(ofL d.op).2 with
  |false=>rw[h1]at h;simp at h
  |true=>
   rw[h1]at h;simp only[Bool.not_true,znl]at h;cases h2:(decide (d.a<0)||decide (mostL p (ofL d.op).1.operand<=d.a))with
   |true=>rw[h2]at h;simp at h
   |false=>
    rw[h2]at h;simp only[znl]at h;rw[Bool.or_eq_false_iff,znz,znz]at h2;rcases List.mem_cons.1 hc with rfl|hc
    .exact⟨h1,by omega,by omega⟩
    .exact yfi h c hc
theorem ybE {p:Img}(h:imgL p=0):0<p.code.length/\p.code.length<=512/\p.consts.length<=64/\p.names.length<=32/\0<=p.places/\p.places<=16/\yaK p.consts=0/\ybn p.names=0/\∀c∈p.code,(ofL c.op).2=true/\0<=c.a/\c.a<mostL p (ofL c.op).1.operand:=by
 unfold imgL at h;by_cases h0:p.code.length=0
 .rw[zno h0]at h
  simp at h
 .rw[znd h0]at h
  simp only[znl]at h;cases h1:(decide (512<p.code.length)||(decide (64<p.consts.length)||decide (32<p.names.length)))with
  |true=>rw[h1]at h;simp at h
  |false=>
   rw[h1]at h;simp only[znl]at h;cases h2:(decide (p.places<0)||decide (16<p.places))with
   |true=>rw[h2]at h;simp at h
   |false=>
    rw[h2]at h;simp only[znl]at h;cases h3:(yaK p.consts !=0)with
    |true=>
     rw[h3]at h;simp only[znm]at h;rw[h]at h3;cases h3
    |false=>
     rw[h3]at h;simp only[znl]at h;cases h4:(ybn p.names !=0)with
     |true=>
      rw[h4]at h;simp only[znm]at h;rw[h]at h4;cases h4
     |false=>
      rw[h4]at h;simp only[znl]at h;simp only[Bool.or_eq_false_iff,znz]at h1 h2;exact⟨by omega,by omega,by omega,by omega,by omega,by omega,by simpa using h3,by simpa using h4,yfi h⟩
end Go.Proofs.YtpagmlndgblhhaaGreatDoor
namespace Go.Va
open Go.Own Go.RowKit
instance:Cells Nat where
 sz:=1
 enc:=fun n=>[.int .i64 (n:Int)]
 len:=fun _=>rfl
 one:=by
  intro x v hv;simp at hv;subst hv;rfl
def yaB (c:In):Int:=bif c.op==29 then c.a else(ofL c.op).1.i
def restsL (c:In):Bool:=(ofL c.op).1.blocks||(ofL c.op).1.ends
def followN (c:In)(k:Nat):List Nat:=
 bif (ofL c.op).1.ends then[]else bif c.op==11 then[c.a.toNat]else bif (ofL c.op).1.flow then[k+1,c.a.toNat]else[k+1]
end Go.Va
namespace Go.Proofs.YtpagmlndgblhhaaGreatDoor
open Go.RowKit Go.Own Go.Own.MapTy Go.Va Go.Sort
open Go.Own.Cells (sz enc)
theorem ybc (op:Int)(inf:Inf)(ok:Bool)(h:ofL op=(inf,ok))(W:World):Calls Tryz.prog 92 #[op] W (fun e w'=>e= .returned (.tuple #[.agg #[inf.name,inf.operand,inf.i,inf.o,inf.blocks,inf.ends,inf.flow],ok])/\Below W W w'):=by
 have:=yge op W;rw[h]at this;exact this
theorem yjR (op a:Int)(W:World):Calls Tryz.prog 154 #[.agg #[op,a]] W fun e w'=>e= .returned (.int .i64 (yaB ⟨op,a⟩))/\Below W W w':=by
 obtain⟨A,D,B⟩:∃A D,ofL op=(A,D):=⟨_,_,rfl⟩;have H:=zhd (ybc op A D B);have E:yaB ⟨op,a⟩=bif op==29 then a else A.i:=by unfold yaB;rw[B]
 rw[E];clear E B;go_in;cases h29:(op==29)with
 |true=>
  go_wp2;go_ret;exact⟨rfl,zal⟩
 |false=>
  go_wp2_with fail;refine(H.o _).mono ?_;rintro e G ⟨rfl,C⟩;have F:=zhd (show Below W W G from(zal).trans (C.mono (by simp)));clear C;go_wp2;go_ret;exact⟨rfl,F.o.alloc F.o.size _⟩
theorem yd5 (op a:Int)(W:World):Calls Tryz.prog 135 #[.agg #[op,a]] W fun e w'=>e= .returned (.bool (restsL ⟨op,a⟩))/\Below W W w':=by
 obtain⟨A,E,B⟩:∃A E,ofL op=(A,E):=⟨_,_,rfl⟩;have H:=zhd (ybc op A E B);have F:restsL ⟨op,a⟩=(A.blocks||A.ends):=by unfold restsL;rw[B]
 rw[F];clear F B;go_in;go_wp2_with fail;refine(H.o _).mono ?_;rintro e G ⟨rfl,C⟩;have D:=zhd (show Below W W G from(zal).trans (C.mono (by simp)));clear C;cases hb:A.blocks with
 |true=>
  go_wp2;go_ret;exact⟨by rw[hb];rfl,D.o.alloc D.o.size _⟩
 |false=>
  go_wp2;go_ret;exact⟨by rw[hb];rfl,D.o.alloc D.o.size _⟩
theorem ydh {F:Nat->Prop}{W:World}{ad:Option Addr}{n cap:Nat}{code:List In}(H:RdF F W (.slice ad n cap) code)(k:Nat)(c:In)(hc:code[k]? =some c)(ha:0<=c.a)(hk:k<65536):
  Calls Tryz.prog 136 #[.slice ad n cap,k] W fun e w'=>∃v,e= .returned v/\RowAt w' 3 v (followN c k)/\(∀g,v.ownBlock=some g->W.heap.size<=g)/\Below W W w':=by
 obtain⟨rfl,T,g,C,J,K⟩:=H.elems;obtain⟨V,Z,I⟩:=K k c hc;have J:=J.resolve_right (fun e=>by rw[e]at hc;simp at hc);subst J;have O:=I 0 _ rfl;have N:=I 1 _ rfl;rw[show C+(k*sz In+0)=C+k*2 from rfl]at O;rw[show C+(k*sz In+1)=C+k*2+1 from rfl]at N;have U:(k:Int)<code.length:=by have:=(zge hc).1;omega
 have S:IntKind.i64.wrap ((k:Int)+1)=(k:Int)+1:=zmk _ (by omega);obtain⟨E,a⟩:=c;obtain⟨A,L,G⟩:∃A L,ofL E=(A,L):=⟨_,_,rfl⟩;have Q:=zhd (ybc E A L G);have P:followN ⟨E,a⟩ k=bif A.ends then[]else bif E==11 then[a.toNat]else bif A.flow then[k+1,a.toNat]else[k+1]:=by unfold followN;rw[G]
 rw[P];dsimp only at ha O N;obtain⟨an,rfl⟩:∃an:Nat,a=an:=⟨a.toNat,by omega⟩;rw[Int.toNat_natCast];clear P G K I H hc;go_in;go_wp2_with fail;refine(Q.o _).mono ?_;rintro e w5 ⟨rfl,B⟩;have Y:w5.cell? ⟨W,0,none⟩=some (.int .i64 E):=by rw[B.cell (p:=⟨W,0,none⟩) (by simp),zch (znb _ _)];rfl
 have X:w5.cell? ⟨W,1,none⟩=some (.int .i64 an):=by rw[B.cell (p:=⟨W,1,none⟩) (by simp),zch (znb _ _)];rfl
 have R:W<w5.heap.size:=by have:=B.size;simp at this;omega
 have M:Below W W w5:=((znv _ _).alloc (znc _) (.cells #[E,an] 106)).trans (B.mono (by simp));have D:=zhd (M.alloc M.size (.cells #[A.name,A.operand,A.i,A.o,A.blocks,A.ends,A.flow] 169));clear B M Q;cases h1:A.ends with
 |true=>
  rw[h1]at D;go_wp2;go_ret;exact⟨_,rfl,by simp only[h1,znm];exact RowAt.nil _ _,fun g h=>(by cases h),D.o⟩
 |false=>
  rw[h1]at D;cases h2:(E==11)with
  |true=>
   go_wp2;go_ret;exact⟨_,rfl,by simp only[h1,h2,znm,znl];exact RowAt.made yat rfl rfl (by decide),ycN (by omega),D.o.alloc (by simp;omega) _⟩
  |false=>
   cases h3:A.flow with
   |true=>
    rw[h3]at D;go_wp2;go_ret;exact⟨_,rfl,by simp only[h1,h2,h3,znm,znl];exact RowAt.made yat rfl rfl (by decide),ycN (by omega),D.o.alloc (by simp;omega) _⟩
   |false=>
    rw[h3]at D;go_wp2;go_ret;exact⟨_,rfl,by simp only[h1,h2,h3,znl];exact RowAt.made yat rfl rfl (by decide),ycN (by omega),D.o.alloc (by simp;omega) _⟩
end Go.Proofs.YtpagmlndgblhhaaGreatDoor
namespace Go.Va
open Go.Own Go.RowKit Go.Own.MapTy
abbrev LM:MapTy Int ByteArray:=IM ByteArray (fun s=>.string s)
def ynt (n:Int):ByteArray:=⟨(Lib.itoa n).toArray⟩
def ynl (n:Nat):ByteArray:=⟨#[108]⟩++ynt (n:Int)
def yql:List (Int×ByteArray)->List In->List (Int×ByteArray)
 |m,[]=>m
 |m,c::r=>yql (bif (ofL c.op).1.operand==4 then upd m c.a ⟨#[]⟩else m) r
def ypC:List (Int×ByteArray)->Nat->Nat->Nat->List (Int×ByteArray)
 |m,_,_,0=>m
 |m,i,n,f+1=>bif (MapTy.get m (i:Int)).isSome then ypC (upd m (i:Int) (ynl (n+1))) (i+1) (n+1) f else ypC m (i+1) n f
def ypB (code:List In):List (Int×ByteArray):=ypC (yql [] code) 0 0 code.length
def ymu (s:ByteArray):ByteArray:=⟨(yop s.data.toList).toArray⟩
def ypI (l:List ByteArray):ByteArray:=⟨(Lib.join (l.map (·.data.toList)) (⟨#[32]⟩:ByteArray).data.toList).toArray⟩
def ymv:Val->ByteArray
 | .mk k n s l=>bif k==1 then ynt n else bif k==2 then ymu s else bif k==3 then(⟨#[91]⟩++ypI (printsL l))++⟨#[93]⟩else⟨#[110,105,108]⟩
where printsL:List Val->List ByteArray
 |[]=>[]
 |x::r=>ymv x::printsL r
def szV:Val->Nat
 | .mk k _ s l=>bif k==2 then 4*s.size+30 else bif k==3 then szL l+30 else 30
where szL:List Val->Nat
 |[]=>0
 |x::r=>1+szV x+szL r
theorem ycX (x:Val):szV x=bif x.kind==2 then 4*x.txt.size+30 else bif x.kind==3 then szV.szL x.list+30 else 30:=by
 cases x;rw[szV];rfl
theorem yjU {x:Val}:∀{l:List Val},x∈l->szV x<=szV.szL l
 |[],h=>by cases h
 |y::r,h=>by
  rw[szV.szL];rcases List.mem_cons.1 h with rfl|h
  .omega
  .have:=yjU h;omega
theorem yjV (l:List Val):l.length<=szV.szL l:=by
 induction l with
 |nil=>simp
 |cons x r ih=>rw[szV.szL];simp;omega
def yaa:Val->Val
 | .mk k n s l=>.mk k (bif k==1 then n else 0) (bif k==2 then s else⟨#[]⟩) (bif k==3 then cloneL l else[])
where cloneL:List Val->List Val
 |[]=>[]
 |x::r=>yaa x::cloneL r
theorem ybU (x:Val):yaa x= .mk x.kind (bif x.kind==1 then x.num else 0) (bif x.kind==2 then x.txt else⟨#[]⟩) (bif x.kind==3 then yaa.cloneL x.list else[]):=by
 cases x;rw[yaa];rfl
theorem ycE (l:List Val):yaa.cloneL l=l.map yaa:=by
 induction l with
 |nil=>rw[yaa.cloneL];rfl
 |cons x r ih=>rw[yaa.cloneL,ih];rfl
end Go.Va
namespace Go.Proofs.YtpagmlndgblhhaaGreatDoor
open Go.RowKit Go.Own Go.Own.MapTy Go.Va Go.Sort
open Go.Own.Cells (sz enc)
def ygT (w:World)(x:Val)(e:Ending)(w':World):Prop:=∃c:VC,e= .returned (.agg #[c.kind,c.n,c.s,.slice c.la c.ln c.lc])/\Hid (CF (fun g=>w<=g) w' c (yaa x)/\Below w w w')
theorem yk3 (x:Val)
  (ck cn:Int)(cs:ByteArray)(la:Option Addr)(ln lc:Nat)(F:Nat->Prop)(w:World)(C:CF F w ⟨ck,cn,cs,la,ln,lc⟩ x)(hz:szV x<=1073741824)
  (h3:(x.kind==3)=false):
  Calls Tryz.prog 58 #[.agg #[ck,cn,cs,.slice la ln lc]] w (ygT w x)
  :=by
 have B:ck=x.kind:=C.kind;have E:cn=x.num:=C.n;have D:cs=x.txt:=C.s;have A:=ybU x;rw[<-B,<-E,<-D]at A;rw[<-B]at h3;have H:=hz;clear C D E B;cases h1:(ck==1)with
 |true=>
  obtain rfl:ck=1:=by simpa using h1
  have G:=zhd A;clear A h1 h3;go_in;go_wp2_with fail;refine zng (v:=.agg #[.int .i64 1,cn,.string ⟨#[]⟩,.slice none 0 0]) (by simp only[results,Tryz.results58];go_simp) rfl ⟨⟨1,cn,⟨#[]⟩,none,0,0⟩,rfl,zhd ⟨?_,?_⟩⟩
  .rw[G.o];exact⟨rfl,rfl,rfl,VF.nil _ _⟩
  .repeat(first|exact znv _ _|refine Below.setCell ?_ (by first|(simp;done)|(simp;omega)) _|refine Below.alloc ?_ (by first|(simp;done)|(simp;omega)) _)
 |false=>
  cases h2:(ck==2)with
  |true=>
   obtain rfl:ck=2:=by simpa using h2
   have G:=zhd A;clear A h1 h2 h3;go_in;go_wp2_with fail;refine zng (v:=.agg #[.int .i64 2,.int .i64 0,cs,.slice none 0 0]) (by simp only[results,Tryz.results58];go_simp) rfl ⟨⟨2,0,cs,none,0,0⟩,rfl,zhd ⟨?_,?_⟩⟩
   .rw[G.o];exact⟨rfl,rfl,rfl,VF.nil _ _⟩
   .repeat(first|exact znv _ _|refine Below.setCell ?_ (by first|(simp;done)|(simp;omega)) _|refine Below.alloc ?_ (by first|(simp;done)|(simp;omega)) _)
  |false=>
   rw[h1,h2,h3]at A;have G:=zhd A;clear A;go_in;go_wp2_with fail;refine zng (v:=.agg #[ck,.int .i64 0,.string ⟨#[]⟩,.slice none 0 0]) (by simp only[results,Tryz.results58];go_simp) rfl ⟨⟨ck,0,⟨#[]⟩,none,0,0⟩,rfl,zhd ⟨?_,?_⟩⟩
   .rw[G.o];exact⟨rfl,rfl,rfl,VF.nil _ _⟩
   .repeat(first|exact znv _ _|refine Below.setCell ?_ (by first|(simp;done)|(simp;omega)) _|refine Below.alloc ?_ (by first|(simp;done)|(simp;omega)) _)
theorem ygQ {w:World}{k:Nat}{o:Obj}(h:k=w):(w.alloc o).heap[k]? =some o:=by rw[h];exact znb _ _
def CIH (n:Nat):Prop:=∀(x:Val),x.parts<=n->∀(ck cn:Int) (cs:ByteArray) (la:Option Addr) (ln lc:Nat) (F:Nat->Prop) (w:World),CF F w ⟨ck,cn,cs,la,ln,lc⟩ x->szV x<=1073741824->
 Calls Tryz.prog 58 #[.agg #[ck,cn,cs,.slice la ln lc]] w (ygT w x)
theorem yk2 {l:List Val}{k:Nat}{y:Val}(h:l[k]? =some y):yaa.cloneL (l.take (k+1))=yaa.cloneL (l.take k)++[yaa y]:=by
 rw[ycE,ycE,List.take_add_one,h];simp
structure ClL (w wr:World)(v:Value)(l:List Val):Prop where
 b3:wr.heap[w.heap.size+2]? =some (.cells #[.int .i64 3,.int .i64 0,.string ⟨#[]⟩,v] 38 (0,0))
 b2:wr.heap[w.heap.size+1]? =some (.cells #[.int .i64 0,.int .i64 0,.string ⟨#[]⟩,.slice none 0 0] 38 (0,0))
 row:VRow (fun g=>w.heap.size+2<g/\v.ownBlock≠some g) wr 38 v (yaa.cloneL l)
 own:∀g,v.ownBlock=some g->w.heap.size+2<g
 below:Below w w wr
theorem ClL.next {w wr W w8 w9:World}{v v1:Value}{l l2:List Val}{cs1:List VC}{c8:VC}{y:Val}{o:Obj}(h:ClL w wr v l)(hrow:RowAt wr 38 v cs1)(hcl:cs1.length=(yaa.cloneL l).length)
  (hce:∀(i:Nat) (c:VC) (x:Val),cs1[i]? =some c->(yaa.cloneL l)[i]? =some x->CF (fun g=>w.heap.size+2<g/\v.ownBlock≠some g) wr c x)(K0:Below wr wr W)
  (hc:CF (fun g=>W<=g) w8 c8 (yaa y))(K8:Below W W w8)(hl2:yaa.cloneL l2=yaa.cloneL l++[yaa y])
  (hr1:RowAt w9 38 v1 (cs1++[c8]))(hk1:Keeps (fun j=>v.ownBlock=some j) (w8.alloc o) w9)(hf1:∀g,v1.ownBlock=some g->v.ownBlock=some g\/(w8.alloc o).heap.size<=g):ClL w (w9.setCell ⟨w.heap.size+2,3,none⟩ v1) v1 l2:=by
 have D:=zlt h.b3;have C:=K0.size;have H:=K8.size;have own:∀g,v1.ownBlock=some g->w.heap.size+2<g:=fun g hg=>by
  rcases hf1 g hg with e|e
  .exact h.own g e
  .have E:w8.heap.size+1<=g:=by simpa using e
   omega
 have B:Keeps (fun _=>False) wr (w8.alloc o):=(zkb ((K0.trans (K8.mono C)))).alloc _;have A:Keeps (fun j=>v.ownBlock=some j) wr w9:=(B.mono (fun _ _ f=>f.elim)).trans hk1 (fun j _ e=>e);have KS:Keeps (fun j=>j=w+2) w9 (w9.setCell ⟨w.heap.size+2,3,none⟩ v1):=Keeps.setCell (S:=fun j=>j=w+2) (p:=⟨w.heap.size+2,3,none⟩) (Keeps.refl _ _) (.inl rfl) _;have b3:=(A.block _ D (fun e=>by have:=h.own _ e;omega)).trans h.b3;have b2:=(A.block (w.heap.size+1) (by omega) (fun e=>by have:=h.own _ e;omega)).trans h.b2;refine⟨by simp[World.setCell,zni,b3],(znn _ _ _ _ (by simp)).trans b2,?_,own,?_⟩
 .rw[hl2]
  refine VRow.keep (S:=fun j=>j=w+2) ?_ KS (fun g hg e=>by have E:g=w+2:=e;omega) (fun g hg e=>by have:=own g hg;omega);exact VRow.app (F:=fun g=>w.heap.size+2<g/\v.ownBlock≠some g) hcl (fun i c x h1 h2=>(hce i c x h1 h2).keep B (fun _ _ f=>f))
   ((hc.mono (G:=fun g=>w.heap.size+2<g/\v.ownBlock≠some g) (fun g hg _=>⟨by omega,fun e=>by have:=hrow.lt e;omega⟩)).keep (S:=fun _=>False) ((Keeps.refl _ _).alloc _) (fun _ _ f=>f))
   hr1 hk1 (fun g hg=>hg.2) (fun g hg hlt=>⟨hg.1,fun e=>(hf1 g e).elim (fun e=>hg.2 e) (fun e=>by omega)⟩)
 .exact(h.below.trans (A.below (by have:=h.below.size;omega) (fun j hj e=>by have:=h.own j e;omega))).setCell (p:=⟨w.heap.size+2,3,none⟩) (by show w<=w.heap.size+2;omega) _
theorem clone_list {n:Nat}(IH:CIH n)(x:Val)(hx:x.parts<=n+1)
  (ck cn:Int)(cs:ByteArray)(la:Option Addr)(ln lc:Nat)(F:Nat->Prop)(w:World)(C:CF F w ⟨ck,cn,cs,la,ln,lc⟩ x)(hz:szV x<=1073741824)
  (h3:(x.kind==3)=true):
  Calls Tryz.prog 58 #[.agg #[ck,cn,cs,.slice la ln lc]] w (ygT w x)
  :=by
 have R:ck=x.kind:=C.kind;obtain rfl:ck=3:=by rw[R];simpa using h3
 have hk:x.kind=3:=R.symm;have hp:=ybU x;rw[hk]at hp;obtain⟨J,Ab,hE⟩:=C.l.elems;have J:ln=x.list.length:=J;rw[ycX,hk]at hz;have c:szV.szL x.list+30<=1073741824:=hz;have Ab:ln<=1073741824:=by have:=yjV x.list;omega
 have M:=zh6 hE J IH hx hp c;clear hE J IH hp R hk C h3 hx hz c;go_in;go_wp2_with fail;go_loopg [26] (ln) (fun gk v26 wr=>∃i:Nat,v26= .int .i64 i/\i<=ln/\gk=ln - i/\Hid (∃v,ClL w wr v (x.list.take i)))
 case atStart=>
  refine⟨0,rfl,znq _,rfl,zhd ⟨.slice none 0 0,⟨?_,?_,(by rw[List.take_zero,yaa.cloneL];exact VRow.nil _ _ _),(fun g r=>by cases r),?_⟩⟩⟩
  .exact ygQ (by simp)
  .exact(zne _ _ _ (by simp)).trans (ygQ (by simp))
  .repeat(first|exact znv _ _|refine Below.setCell ?_ (by first|(simp;done)|(simp;omega)) _|refine Below.alloc ?_ (by first|(simp;done)|(simp;omega)) _)
 case round=>
  obtain⟨i,rfl,hi,q,D⟩:=hrel;obtain⟨v,D⟩:=D.o;obtain⟨I,B,Q,T⟩:=D.row;obtain⟨X,c3,rfl⟩:=B.slice;have O:I.length=i:=by rw[Q,ycE];have:=M.o.2.1;simp;omega
  rw[O]at B D T;have h3:=zca D.b3 3 rfl;have h0:=zca D.b3 0 rfl;have h1:=zca D.b3 1 rfl;have h2:=zca D.b3 2 rfl;have f3:∀o,wr.frozen? ⟨w.heap.size+2,o,none⟩=false:=fun o=>zfr D.b3 o;have f2:∀o,wr.frozen? ⟨w.heap.size+1,o,none⟩=false:=fun o=>zfr D.b2 o;obtain⟨r0,r1,r2,r3,_⟩:=zq4 D.b2;have l3:w.heap.size+2<wr.heap.size:=zlt D.b3;have A:=zh6 D B Q T q O;clear D B Q T q O;by_cases hin:i<ln
  .obtain⟨y,N⟩:=yae (l:=x.list) (k:=i) (by have:=M.o.2.1;omega)
   obtain⟨g,Ad,ha,Ag,r,z⟩:=M.o.1.resolve_left (fun e=>by rw[e]at N;simp at N);obtain⟨U,hC,q0,q1,q2,q3⟩:=z i y N;subst ha;have Af:g<wr:=by have:=A.o.1.below.size;omega
   have Ah:¬g=w.heap.size+2:=by omega
   rw[<-A.o.1.below.cell (p:=⟨g,_,none⟩) r]at q0 q1 q2 q3;have Aa:CF F wr U y:=hC.keep (S:=fun _=>False) (zkb A.o.1.below) (fun _ _ f=>f);have Ac:(i:Int)<ln:=by omega
   have d:y.parts<=n:=by
    have:=Val.parts_lt (v:=x) (zmg N);have:=M.o.2.2.2.1;omega
   have L:=zmg N;have CC:=zhd (fun W (K:Below wr wr W)=>M.o.2.2.1 y d U.kind U.n U.s U.la U.ln U.lc F W (Aa.keep (S:=fun _=>False) (zkb K) (fun _ _ f=>f)) (by have:=yjU L;have:=M.o.2.2.2.2.2;omega));have HY:=zhd (yk2 N);clear z hC Aa d L N;have NB:=zhd (show∀g,(Value.slice X i c3).ownBlock=some g->g≠w.heap.size+2 from fun g r e=>by have:=A.o.1.own g r;omega);have Ae:¬wr.heap.size=w.heap.size+2:=by omega
   have Y:=zhd (show(I.length+[(⟨0,0,⟨#[]⟩,none,0,0⟩:VC)].length)*56<=140737488355328/\I.length+[(⟨0,0,⟨#[]⟩,none,0,0⟩:VC)].length<=maxLen/\I.length+[(⟨0,0,⟨#[]⟩,none,0,0⟩:VC)].length=i+1 from by have:=A.o.2.2.2.2.2;unfold maxLen;simp;omega);go_wp2_with fail;go_region_law ((first
    |(go_simp;go_at_call 58;refine(CC.o _ (by repeat(first|exact znv _ _|refine Below.drew ?_|refine Below.alloc ?_ (znc _) _))).mono ?_;rintro e w8 ⟨⟨k8,n8,s8,b,Z,a⟩,rfl,H8⟩;have H:=(H8.o.2.block (w.heap.size+2) (by simp;omega)).trans ((zne _ _ _ l3).trans A.o.1.b3);have y3:w8.cell? ⟨w.heap.size+2,3,none⟩=some (.slice X i c3):=(by rw[zch H];rfl);have fy:∀o,w8.frozen? ⟨w.heap.size+2,o,none⟩=false:=(fun o=>zfr H o);have ly:w.heap.size+2<w8.heap.size:=(zlt H);have HG:=zhd H;clear H)
    |(refine yaC (α:=VC) (o:=⟨some 35,_,_,_,_,_⟩) yfO (by rfl) (.tmp 31) (.tmp 34) (by rfl) (v:=.slice X i c3) (u:=.slice (some ⟨w8,0,none⟩) 1 1) (by rfl) (by rfl) (xs:=I) (ys:=[⟨k8,n8,s8,b,Z,a⟩]) (((A.o.2.1.drew.alloc _).below H8.o.2).alloc _) (RowAt.lit (α:=VC) (y:=⟨k8,n8,s8,b,Z,a⟩) (znb _ _)) Y.o.1 Y.o.2.1 (i+1) Y.o.2.2 ?_;intro a1 cp w9 m P t;have E:=(P.block (w.heap.size+2) (by simp;omega) (fun e=>NB.o _ e rfl)).trans ((zne _ _ _ ly).trans HG.o);have z3:w9.cell? ⟨w.heap.size+2,3,none⟩=some (.slice X i c3):=(by rw[zch E];rfl);have fz:∀o,w9.frozen? ⟨w.heap.size+2,o,none⟩=false:=(fun o=>zfr E o);have lz:w.heap.size+2<w9.heap.size:=zlt E;have FF:=zh4 m P t E;clear m P t E)))
   all_goals
    go_wp2_with fail;go_roundg (ln - (i+1))
    case measure=>have:=A.o.2.2.2.2.1;omega
    case rel=>exact⟨i+1,by simp,by omega,rfl,zhd ⟨_,A.o.1.next A.o.2.1 A.o.2.2.1 A.o.2.2.2.1 (by repeat(first|exact znv _ _|refine Below.drew ?_|refine Below.alloc ?_ (znc _) _)) H8.o.1 H8.o.2 HY.o FF.o.1 FF.o.2.1 FF.o.2.2.1⟩⟩
  .obtain rfl:i=ln:=by omega
   have ht:x.list.take i=x.list:=zmj (by have:=M.o.2.1;omega);go_wp2_with fail;refine zng (v:=.agg #[.int .i64 3,.int .i64 0,.string ⟨#[]⟩,.slice X i c3]) (by simp only[results,Tryz.results58];go_simp) rfl ⟨⟨3,0,⟨#[]⟩,X,i,c3⟩,rfl,zhd ⟨?_,?_⟩⟩
   .rw[M.o.2.2.2.2.1]
    refine⟨rfl,rfl,rfl,?_⟩;have V:VF (fun g=>w.heap.size+2<g) wr (.slice X i c3) (yaa.cloneL x.list):=by
     have h:=A.o.1.row.vf (G:=fun g=>w.heap.size+2<g) (fun g h=>h.1) A.o.1.own;rw[ht]at h;exact h
    refine VF.mono (F:=fun g=>w.heap.size+2<g) (fun g (h:w.heap.size+2<g) _=>(show w<=g by omega)) (VF.keep (S:=fun j=>j=w+1) ?_ (fun g (h:w.heap.size+2<g) e=>by have e':g=w+1:=e;omega) V)
    repeat(first|exact Keeps.refl _ _|refine Keeps.setCell ?_ (Or.inl (by show w.heap.size+1=w.heap.size+1;rfl)) _)
   .refine A.o.1.below.trans ?_
    repeat(first|exact znv _ _|refine Below.setCell ?_ (by first|(simp;done)|(simp;omega)) _)
theorem ygH:∀n,CIH n
 |0=>fun x h=>by have:=x.parts_pos;omega
 |n+1=>fun x h ck cn cs la ln lc F w C hz=>by
  cases h3:(x.kind==3)with
  |false=>exact yk3 x ck cn cs la ln lc F w C hz h3
  |true=>exact clone_list (ygH n) x h ck cn cs la ln lc F w C hz h3
theorem yay (x:Val)
 (ck cn:Int)(cs:ByteArray)(la:Option Addr)(ln lc:Nat)(F:Nat->Prop)(w:World)(C:CF F w ⟨ck,cn,cs,la,ln,lc⟩ x)(hz:szV x<=1073741824)
 :
 Calls Tryz.prog 58 #[.agg #[ck,cn,cs,.slice la ln lc]] w (ygT w x)
 :=ygH x.parts x (znc _) ck cn cs la ln lc F w C hz
end Go.Proofs.YtpagmlndgblhhaaGreatDoor
namespace Go.Va
open Go.Own Go.RowKit
def ybD (n:Int):Val:=.mk 1 n ⟨#[]⟩ []
def yaE (b:Bool):Val:=ybD (bif b then 1 else 0)
def ybZ (s:ByteArray):Val:=.mk 2 0 s []
def ycm (v:Val):Bool:=bif v.kind==1 then v.num !=0 else bif v.kind==2 then v.txt.size !=0 else bif v.kind==3 then decide (0<v.list.length)else false
structure Th where
 id:Int
 over:Bool
 result:Val
 how:Int
structure Ths where
 list:List Th
 next:Int
structure Lt where
 name:ByteArray
 v:Val
structure Cm where
 kind:Int
 time:Int
 a:Int
 b:Int
 name:ByteArray
 v:Val
structure Ev where
 id:Int
 time:Int
 kind:Int
 a:Int
 b:Int
 name:ByteArray
 text:ByteArray
 v:Val
structure MS where
 stk:List Val
 places:List Val
 at_:Nat
 input:Val
 now:Int
 timers:Ths
 acts:Ths
 letters:List Lt
 asked:Bool
 begun:Bool
 over:Bool
 trap:ByteArray
 made:List Cm
 taken:Nat
 events:Nat
 steps:Nat
def yax (id:Int):List Th->Option Nat
 |[]=>none
 |x::r=>if x.id=id then some 0 else(yax id r).map (· +1)
def yck (t:Ths):Ths:=⟨t.list++[⟨t.next+1,false,.mk 0 0 ⟨#[]⟩ [],0⟩],t.next+1⟩
def ycw (id how:Int)(v:Val):List Th->List Th
 |[]=>[]
 |x::r=>if x.id=id then(bif x.over then x::r else⟨x.id,true,yaa v,how⟩::r)else x::ycw id how v r
def yao (name:ByteArray):List Lt->Option Nat
 |[]=>none
 |x::r=>if x.name=name then some 0 else(yao name r).map (· +1)
def yag:Val:=.mk 0 0 ⟨#[]⟩ []
namespace MS
def push (s:MS)(v:Val):MS:={s with stk:=s.stk++[v]}
def pop (s:MS):MS:={s with stk:=s.stk.dropLast}
def top (s:MS):Val:=s.stk.getLast?.getD yag
def nxt (s:MS):MS:={s with at_:=s.at_+1}
def want (s:MS)(c:Cm):MS:={s with made:=s.made++[{c with time:=s.now,v:=yaa c.v}],over:=s.over||(c.kind==4||c.kind==5||c.kind==6)}
def fall (s:MS)(why:ByteArray):MS:=({s with trap:=why}:MS).want ⟨5,0,0,0,⟨#[116,114,97,112,32]⟩++why,yag⟩
def openL (s:MS)(i:Nat):MS:={s with letters:=s.letters.eraseIdx i}
def letV (s:MS)(i:Nat):Val:=(s.letters[i]?.getD ⟨⟨#[]⟩,yag⟩).v
def put (s:MS)(v:Val):MS:=if checkL v≠0 then s.fall ⟨#[108,111,110,103]⟩else s.push v
def tType (s:MS):MS:=s.fall ⟨#[116,121,112,101]⟩
def tGone (s:MS):MS:=s.fall ⟨#[103,111,110,101]⟩
def tRange (s:MS):MS:=s.fall ⟨#[114,97,110,103,101]⟩
def tMany (s:MS):MS:=s.fall ⟨#[109,97,110,121]⟩
def arith (s:MS)(op:Int)(a b:Val):MS:=
 if a.kind≠1\/b.kind≠1 then s.tType else s.push (ybD (wrap64 (if op=5 then a.num+b.num else if op=6 then a.num - b.num else a.num*b.num)))
def two (s:MS)(op:Int)(a b:Val):MS:=
 if op=8 then s.push (yaE (cmpV a b==0))else
 if op=9 then s.push (yaE (decide (cmpV a b<0)))else
 if op=30 then(if a.kind≠3\/b.kind≠1 then s.tType else s.push (yaa (if 0<=b.num/\b.num<a.list.length then a.list[b.num.toNat]?.getD yag else yag)))else
 if op=32 then(if a.kind=2/\b.kind=2 then s.put (ybZ (a.txt++b.txt))else if a.kind=3/\b.kind=3 then s.put (yaa (.mk 3 0 ⟨#[]⟩ (a.list++b.list)))else s.tType)else
 s.arith op a b
def reckon (s:MS)(op:Int)(k:Nat):MS:=
 if op=29 then({s with stk:=s.stk.take (s.stk.length - k)}:MS).put (.mk 3 0 ⟨#[]⟩ (s.stk.drop (s.stk.length - k)))else
 if op=10 then s.pop.push (yaE (!ycm s.top))else
 if op=31 then(if s.top.kind=3 then s.pop.push (ybD s.top.list.length)else if s.top.kind=2 then s.pop.push (ybD s.top.txt.size)else s.pop.tType)else
 s.pop.pop.two op s.pop.top s.top
def begin_ (s:MS)(op:Int)(name:ByteArray):MS:=
 let v:=s.top
 let s1:=s.pop
 if op=19 then
  (match(if v.kind=1 then yax v.num s.timers.list else none)with
  |none=>s1.tGone
  |some i=>
   let x:=s.timers.list[i]?.getD ⟨0,false,yag,0⟩
   let s2:={s1 with timers:=⟨s.timers.list.eraseIdx i,s.timers.next⟩}
   (bif x.over then s2 else s2.want ⟨2,0,v.num,0,⟨#[]⟩,yag⟩).push (yaE (!x.over)))else
 if v.kind≠1\/v.num<0\/(op=20/\1073741824<v.num)then s1.tRange else
 if 64<=s.timers.list.length+s.acts.list.length then s1.tMany else
 if op=20 then(({s1.pop with acts:=yck s.acts}:MS).want ⟨3,0,s.acts.next+1,v.num,name,s1.top⟩).push (ybD (s.acts.next+1))else
 (({s1 with timers:=yck s.timers}:MS).want ⟨1,0,s.timers.next+1,v.num,⟨#[]⟩,yag⟩).push (ybD (s.timers.next+1))
def wait (s:MS)(op:Int)(name:ByteArray):Option MS:=
 if op=22 then(yao name s.letters).map (fun i=>((s.openL i).push (s.letV i)).nxt)else
 let l:=if op=21 then s.acts.list else s.timers.list
 match(if s.top.kind=1 then yax s.top.num l else none)with
 |none=>some s.tGone
 |some i=>
  match(if op=28 then yao name s.letters else none)with
  |some k=>some (((s.pop.openL k).push (s.letV k)).push (yaE true)).nxt
  |none=>
   let x:=l[i]?.getD ⟨0,false,yag,0⟩
   bif !x.over then none else
   let s1:=if op=21 then{s.pop with acts:=⟨l.eraseIdx i,s.acts.next⟩}else{s.pop with timers:=⟨l.eraseIdx i,s.timers.next⟩}
   some (if op=18 then s1.push (ybD s.now)else if op=21 then(s1.push x.result).push (ybD x.how)else(s1.push yag).push (yaE false)).nxt
def end_ (s:MS)(op:Int)(name:ByteArray):MS:=
 if op=25 then s.pop.want ⟨4,0,0,0,⟨#[]⟩,s.top⟩else if op=27 then s.pop.want ⟨6,0,0,0,⟨#[]⟩,s.top⟩else s.want ⟨5,0,0,0,name,yag⟩
def go (s:MS)(p:Img)(op:Int)(k:Nat):MS:=
 let name:=p.names[k]?.getD ⟨#[]⟩
 if op=1 then s.push (yaa (p.consts[k]?.getD yag))else
 if op=2 then s.pop else
 if op=3 then s.push (yaa s.top)else
 if op=4 then(s.pop.pop.push s.top).push s.pop.top else
 if op=13 then s.push (yaa (s.places[k]?.getD yag))else
 if op=14 then{s.pop with places:=s.places.set k s.top}else
 if op=15 then s.push (yaa s.input)else
 if op=16 then s.push (ybD s.now)else
 if op=24 then s.push (yaE s.asked)else
 if op=23 then(match yao name s.letters with
  |some i=>((s.openL i).push (s.letV i)).push (yaE true)
  |none=>(s.push yag).push (yaE false))else
 if op=17\/op=19\/op=20 then s.begin_ op name else
 if op=0 then s else s.reckon op k
end MS
def yal (p:Img)(s:MS):Option MS:=
 let c:=p.code[s.at_]?.getD ⟨0,0⟩
 let i:=(ofL c.op).1
 bif i.blocks then s.wait c.op (p.names[c.a.toNat]?.getD ⟨#[]⟩)else
 bif i.ends then some (s.end_ c.op (p.names[c.a.toNat]?.getD ⟨#[]⟩))else
 bif i.flow then some (bif c.op==11 then{s with at_:=c.a.toNat}else bif ycm s.top then s.pop.nxt else{s.pop with at_:=c.a.toNat})else
 some (s.nxt.go p c.op c.a.toNat)
def ya1 (p:Img):Nat->MS->MS
 |0,s=>s
 |f+1,s=>bif s.over then s else match yal p s with
  |none=>s
  |some s'=>ya1 p f {s' with steps:=s'.steps+1}
end Go.Va
namespace Go.Va
open Go.Own Go.RowKit
def ypP (d:Int):Val->Int->Bool×Int
 | .mk _ _ s l,left=>bif decide (left - 1<0)||(decide (12<d)||decide (1100<s.size))then(false,left - 1)else fitL (d+1) l (left - 1)
where fitL (d:Int):List Val->Int->Bool×Int
 |[],left=>(true,left)
 |x::r,left=>bif (ypP d x left).1 then fitL d r (ypP d x left).2 else(false,(ypP d x left).2)
def Val.all (P:Int->Int->ByteArray->Prop):Val->Prop
 | .mk k n s l=>P k n s/\allL l
where allL:List Val->Prop
 |[]=>True
 |x::r=>x.all P/\allL r
theorem Val.allL_iff {P:Int->Int->ByteArray->Prop}:∀{l:List Val},Val.all.allL P l↔∀x∈l,x.all P
 |[]=>by rw[Val.all.allL];simp
 |y::r=>by rw[Val.all.allL,Val.allL_iff];simp
end Go.Va
namespace Go.Proofs.YtpagmlndgblhhaaGreatDoor
open Go.RowKit Go.Own Go.Own.MapTy Go.Va Go.Sort
open Go.Own.Cells (sz enc)
def LX (w:World)(b:Nat)(n:Int):Prop:=w.heap[b]? =some (.cells #[n] 3 (0,0))
theorem LX.c {w:World}{b:Nat}{n:Int}(h:LX w b n):w.cell? ⟨b,0,none⟩=some (.int .i64 n):=by rw[zch h];rfl
theorem LX.keep {w w':World}{b:Nat}{n:Int}{S:Nat->Prop}(h:LX w b n)(K:Keeps S w w')(hs:¬S b):LX w' b n:=(K.block b (zlt h) hs).trans h
theorem LX.set {w:World}{b:Nat}{n:Int}(h:LX w b n)(m:Int):LX (w.setCell ⟨b,0,none⟩ (.int .i64 m)) b m:=by
 unfold LX at h|-;simp[World.setCell,zni,h]
def ynY (w:World)(b:Nat)(r:Bool×Int)(e:Ending)(w':World):Prop:=e= .returned (.bool r.1)/\Hid (LX w' b r.2/\Keeps (fun j=>j=b) w w')
end Go.Proofs.YtpagmlndgblhhaaGreatDoor
namespace Go.Proofs.YtpagmlndgblhhaaGreatDoor
open Go.ChangeShapes Go.WideShapes Go.Deep Go.RowKit Go.Own Go.Va
open Go.Own.Cells (sz enc)
section
variable{H:Type} {tok:TypeId×Value->H} {P:Program} {w:World} {base:Nat} {spare:Nat->Bool} {held:Bool}
theorem ykt {n:Int}(h:(Lit.int .i64 n).wf=true): -9223372036854775808<=n/\n<=9223372036854775807:=by
 have:IntKind.i64.min<=n/\n<=9223372036854775807:=by simpa[Lit.wf,IntKind.bits,IntKind.signed]using h
 exact this
theorem yed {α:Type}[Cells α]{tS tE:TypeId}(ht:P.underlying tS=some (.slice tE))(hc:P.cellsOf tE=sz α)(h0:0<sz α){Q:α->Prop}{fuel:Nat}{cs:List Value}{x:DataW H×List MemPlace}(dflt:α)
  (hel:∀m,m<fuel->∀cs x,cs.length=sz α->DataW.trod tok P w base spare held m tE cs=some x->∃y:α,cs=enc y/\Q y)
  (h:DataW.trod tok P w base spare held fuel tS cs=some x):∃a len cap,cs=[.slice a len cap]/\∃ys:List α,RdF (fun j=>j<w) w (.slice a len cap) ys/\∀y∈ys,Q y:=by
 rcases DataW.trod_slice ht h with⟨rfl,_⟩|⟨a,len,cap,elems,R,n,rfl,rfl,_,_,Y,hm,S,N,_⟩
 .exact⟨none,0,0,rfl,[],RdF.nil _ _,fun y C=>by cases C⟩
 .have cell:∀i,i<len->∃y:α,Q y/\∀j u,(enc y)[j]? =some u->w.cell? (a.add (i*sz α+j))=some u:=by
   intro i D;have U:=N i D;rw[List.getElem?_eq_getElem (by omega),Option.bind_eq_some_iff]at U;obtain⟨O,L,G⟩:=U;obtain⟨_,F,B⟩:=World.cells?_some L;rw[hc]at F;obtain⟨y,C,X⟩:=hel n (Nat.lt_succ_self n) O _ F G;refine⟨y,X,fun j u hj=> ?_⟩;have J:j<sz α:=by have:=(zge hj).1;rwa[Cells.len]at this
   rw[hc]at B;rw[<-Go.Deep.add_add,B j J,C];exact hj
  have M:=Classical.axiomOfChoice (fun i=>show∃y:α,i<len->Q y/\∀j u,(enc y)[j]? =some u->w.cell? (a.add (i*sz α+j))=some u from by
   by_cases D:i<len
   .obtain⟨y,h⟩:=cell i D;exact⟨y,fun _=>h⟩
   .exact⟨dflt,fun h=>absurd h D⟩)
  obtain⟨f,K⟩:=M;refine⟨some a,len,cap,rfl,(List.range len).map f,⟨some a,cap,by simp,by simpa using Y,hm,?_⟩,?_⟩
  .intro i y C
   have D:i<len:=by have:=(zge C).1;simpa using this
   simp[D]at C;subst C;obtain⟨_,Z⟩:=K i D;obtain⟨b,A,rfl,T⟩:∃b A,a=⟨b,A,none⟩/\b<w.heap.size:=by
    have I:(enc (f 0)).length=sz α:=Cells.len _;have V:(enc (f 0))[0]? =some ((enc (f 0))[0]'(by omega)):=List.getElem?_eq_getElem _;have hc:=(K 0 (by omega)).2 0 _ V;simp only[Nat.zero_mul,Nat.add_zero]at hc;obtain⟨b,A,E⟩:=a;have W:E=none:=by simpa[Addr.add]using World.cell?_spot hc
    subst W;exact⟨b,A,rfl,by simpa[Addr.add]using World.block_lt_of_cell? w _ hc⟩
   refine⟨b,A,rfl,T,T,fun j u hj=> ?_⟩;have:=Z j u hj;simp only[Go.WideShapes.add_plain]at this;exact this
  .intro y C
   obtain⟨i,D,rfl⟩:=List.mem_map.1 C;exact(K i (List.mem_range.1 D)).1
theorem ykv {α:Type}{R:α->Val->Prop}:∀(ys:List α),(∀y∈ys,∃v,R y v)->∃l:List Val,ys.length=l.length/\∀(i:Nat) (c:α) (x:Val),ys[i]? =some c->l[i]? =some x->R c x
 |[],_=>⟨[],rfl,fun i c x h=>by simp at h⟩
 |y::r,h=>by
  obtain⟨v,hv⟩:=h y (zmf ..);obtain⟨l,B,A⟩:=ykv r (fun z hz=>h z (zme _ hz));refine⟨v::l,by simp[B],fun i c x hc hx=> ?_⟩;cases i with
  |zero=>
   simp at hc hx;subst hc hx;exact hv
  |succ i=>exact A i c x (by simpa using hc) (by simpa using hx)
def B64 (k n:Int)(_:ByteArray):Prop:=(-9223372036854775808<=k/\k<=9223372036854775807)/\ -9223372036854775808<=n/\n<=9223372036854775807
theorem ykM {cs:List Value}(h:cs.length=4):∃a b c d,cs=[a,b,c,d]:=by
 match cs,h with
 |[a,b,c,d],_=>exact⟨a,b,c,d,rfl⟩
theorem yku {w:World}{F:Nat->Prop}{v:Value}{ys:List VC}(hr:RdF F w v ys)(hq:∀y∈ys,∃x:Val,CF F w y x/\x.all B64):∃l:List Val,VF F w v l/\Val.all.allL B64 l:=by
 obtain⟨l,D,A⟩:=ykv (R:=fun(y:VC) (x:Val)=>CF F w y x/\x.all B64) ys hq;refine⟨l,.mk v ys l hr D (fun i c x hc hx=>⟨(A i c x hc hx).1.kind,(A i c x hc hx).1.n,(A i c x hc hx).1.s⟩) (fun i c x hc hx=>(A i c x hc hx).1.l),Val.allL_iff.2 (fun x hx=> ?_)⟩;obtain⟨i,C⟩:=List.mem_iff_getElem?.1 hx;have B:i<ys.length:=by rw[D];exact(zge C).1
 exact(A i _ x (List.getElem?_eq_getElem B) C).2
theorem ykB:Tryz.prog.cellsOf 3=1:=by kernel_rfl
theorem yox:Tryz.prog.cellsOf 2=1:=by kernel_rfl
theorem ynn:Tryz.prog.cellsOf 9=1:=by kernel_rfl
theorem ymB:Tryz.prog.cellsOf 25=1:=by kernel_rfl
theorem ynm:Tryz.prog.cellsOf 38=4:=by kernel_rfl
theorem ypF:Tryz.prog.cellsOf 106=2:=by kernel_rfl
theorem yoz:Tryz.prog.cellsOf 24=1:=by kernel_rfl
theorem ynp:Tryz.prog.cellsOf 26=1:=by kernel_rfl
theorem ypG:Tryz.prog.cellsOf 28=4:=by kernel_rfl
theorem yii:∀(fuel:Nat) (cs:List Value) (x:DataW H×List MemPlace),cs.length=4->DataW.trod tok Tryz.prog w base spare held fuel 38 cs=some x->∃y:VC,cs=enc y/\∃v:Val,CF (fun j=>j<w) w y v/\v.all B64:=by
 intro fuel
 induction fuel using Nat.strongRecOn with
 |_ fuel ih=>
  intro cs x X h;obtain⟨R,n,rfl,rfl,_,C,B⟩:=DataW.trod_struct Tryz.underlying38 h;obtain⟨c0,c1,c2,c3,rfl⟩:=ykM X
  match R,C with
  |[x0,x1,x2,x3],_=>
   have L:=B 0 _ rfl;have K:=B 1 _ rfl;have J:=B 2 _ rfl;have I:=B 3 _ rfl;simp[ykB,yox,ynn,ymB]at L K J I;obtain⟨G,P,_,Z⟩:=DataW.trod_int Tryz.underlying3 L;obtain⟨F,O,_,Y⟩:=DataW.trod_int Tryz.underlying2 K;obtain⟨E,N,_,_⟩:=DataW.trod_string Tryz.underlying9 J;obtain⟨U,S,T,M,a,V,W⟩:=yed (α:=VC) (Q:=fun y=>∃v:Val,CF (fun j=>j<w) w y v/\v.all B64) Tryz.underlying25 ynm (by decide) ⟨0,0,.empty,none,0,0⟩ (fun m hm cs x hcl ht=>ih m (by omega) cs x hcl ht) I;simp at P O N M;subst P O N M;obtain⟨l,D,A⟩:=yku V W;refine⟨⟨G,F,E,U,S,T⟩,rfl,.mk G F E l,⟨rfl,rfl,rfl,D⟩,?_⟩;rw[Val.all];exact⟨⟨ykt Z,ykt Y⟩,A⟩
theorem yfa {r:Reach}{b0:Nat}{v:Value}{d:DataW H}{p:List MemPlace}(hv:Value.okWide Tryz.prog w r b0 28 v)(h:DataW.Trod tok Tryz.prog w base spare held 28 v d p):
  ∃(i:IC) (im:Img),v= .agg #[.slice i.ca i.cn i.cc,.slice i.ka i.kn i.kc,.slice i.na i.nn i.nc,i.pl]/\IAt (fun j=>j<w) w i im/\Val.all.allL B64 im.consts/\(∀c∈im.code,-9223372036854775808<=c.a/\c.a<=9223372036854775807):=by
 obtain⟨B,rfl,C⟩:=okWide_struct Tryz.underlying28 hv;obtain⟨fuel,A⟩:=h;rw[ypG]at C;have I:B.toList.length=4:=by simpa using C
 obtain⟨Y,n,rfl,_,_,E,A⟩:=DataW.trod_struct Tryz.underlying28 A;obtain⟨c0,c1,c2,c3,J⟩:=ykM I
 match Y,E with
 |[x0,x1,x2,x3],_=>
  have O:=A 0 _ rfl;have N:=A 1 _ rfl;have M:=A 2 _ rfl;have L:=A 3 _ rfl;simp[Value.cells,J,ykB,yoz,ynp,ymB]at O N M L;obtain⟨ca,cn,cc,X,ys0,g,o⟩:=yed (α:=In) (Q:=fun y=> -9223372036854775808<=y.a/\y.a<=9223372036854775807) Tryz.underlying24 ypF (by decide) ⟨0,0⟩ (fun m hm B x hcl ht=>by
   obtain⟨Z,m2,_,_,_,G,K⟩:=DataW.trod_struct Tryz.underlying106 ht
   match B,hcl with
   |[u,v],_=>
    match Z,G with
    |[y0,y1],_=>
     have R:=K 0 _ rfl;have P:=K 1 _ rfl;simp[ykB]at R P;obtain⟨t,T,_,_⟩:=DataW.trod_int Tryz.underlying3 R;obtain⟨q,S,_,z⟩:=DataW.trod_int Tryz.underlying3 P;simp at T S;subst T S;exact⟨⟨t,q⟩,rfl,ykt z⟩) O
  obtain⟨ka,kn,kc,W,ys1,f,k⟩:=yed (α:=VC) (Q:=fun y=>∃v:Val,CF (fun j=>j<w) w y v/\v.all B64) Tryz.underlying25 ynm (by decide) ⟨0,0,.empty,none,0,0⟩ (fun m _ B x hcl ht=>yii m B x hcl ht) N;obtain⟨na,nn,nc,V,ys2,b,_⟩:=yed (α:=ByteArray) (Q:=fun _=>True) Tryz.underlying26 ynn (by decide) .empty (fun m hm B x hcl ht=>by
   obtain⟨s,e,_,_⟩:=DataW.trod_string Tryz.underlying9 ht;exact⟨s,e,trivial⟩) M
  obtain⟨pl,U,_,_⟩:=DataW.trod_int Tryz.underlying3 L;simp at X W V U;subst X W V U;obtain⟨l,F,D⟩:=yku f k;refine⟨⟨ca,cn,cc,ka,kn,kc,na,nn,nc,pl⟩,⟨ys0,l,ys2,pl⟩,?_,⟨g,F,b,rfl⟩,D,o⟩
  congr 1
  exact Array.ext' (by simpa using J)
end
theorem yn8:∀{x:Val},x.all B64->x.all (fun _ _ s=>s.size<=1100)->x.wf
 | .mk k n s l,h1,h2=>by
   rw[Val.all]at h1 h2;rw[Val.wf];exact⟨h1.1.1,h1.1.2,by have:=h2.1;omega,wfL_of h1.2 h2.2⟩
where wfL_of:∀{l:List Val},Val.all.allL B64 l->Val.all.allL (fun _ _ s=>s.size<=1100) l->Val.wf.wfL l
 |[],_,_=>by rw[Val.wf.wfL];trivial
 |x::r,h1,h2=>by
  rw[Val.all.allL]at h1 h2;rw[Val.wf.wfL];exact⟨yn8 h1.1 h2.1,wfL_of h1.2 h2.2⟩
end Go.Proofs.YtpagmlndgblhhaaGreatDoor
namespace Go.Proofs.YtpagmlndgblhhaaGreatDoor
open Go.RowKit Go.Own Go.Own.MapTy Go.Va Go.Sort
open Go.Own.Cells (sz enc)
def textB (ls:List (List UInt8)):List UInt8:=ls.flatMap (fun l=>l++[10])
end Go.Proofs.YtpagmlndgblhhaaGreatDoor
