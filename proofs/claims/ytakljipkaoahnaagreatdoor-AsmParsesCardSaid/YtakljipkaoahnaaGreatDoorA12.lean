/- Parts of the proof: what the functions and the plain laws give that later parts lean on. Conditions: none beyond those that each theorem names. -/
import Derived.Test.YtakljipkaoahnaaGreatDoorA11
set_option maxRecDepth 100000
set_option maxHeartbeats 8000000
namespace Go.Va
open Go.Own Go.RowKit Go.Own.MapTy
def trimB (s:ByteArray):ByteArray:=⟨(Lib.trimSuffix s.data.toList [58]).toArray⟩
def isLab (s:ByteArray):Bool:=Lib.hasSuffix s.data.toList [58]&&labL (trimB s).data.toList
def cutN (s:ByteArray):ByteArray:=⟨(Lib.cut (Lib.trimPrefix s.data.toList [32,32]) [32]).1.toArray⟩
def cutR (s:ByteArray):ByteArray:=⟨(Lib.cut (Lib.trimPrefix s.data.toList [32,32]) [32]).2.1.toArray⟩
def cutM (s:ByteArray):Bool:=(Lib.cut (Lib.trimPrefix s.data.toList [32,32]) [32]).2.2
section
variable{W W':World} {tr ti tv ts tj:TypeId} {Z:Nat→Prop} {b:Nat} {v:RV} {st:RSt}
theorem RS.setLab (R:RS W tr ti tv ts tj Z b v st){m:Nat}(hm:v.mb=some m){o:Obj}{labels:List (ByteArray×Int)}(ho:∀W:World,W.heap[m]? =some o→MapAt SM W m labels):RS (setBlock W m o) tr ti tv ts tj Z b v {st with labels:=labels}∧RK b v W v (setBlock W m o):=by
 have lt:m<W.heap.size:=R.lt (.inr (.inl hm))
 have KB:Keeps (fun j=>j=m) W (setBlock W m o):=(Keeps.refl (fun j=>j=m) W).setBlock (b:=m) (.inl rfl) o
 refine⟨⟨(KB.block b (zlt R.h) (fun e=>R.sep.m m hm e.symm)).trans R.h,R.code.keep KB (fun g hg e=>(R.sep.c g hg).2 (e▸hm)),R.consts.keep KB (fun g h e=>h.1 (.inr (.inl (e▸hm)))) (fun g hg e=>(R.sep.k g hg).2.1 (e▸hm)),R.names.keep KB (fun g hg e=>(R.sep.n g hg).2.1 (e▸hm)),R.jumps.keep KB (fun g hg e=>(R.sep.j g hg).2.1 (e▸hm)),R.pl,fun m' hm'=> ?_,R.sep⟩,KB.mono (fun j _ e=>.inr (.inl (e▸hm))),fun j hj=>.inl hj,rfl⟩
 rw[hm]at hm'
 cases hm'
 exact ho _ (setBlock_same _ _ _ lt)
end
end Go.Va
namespace Go.Proofs.YtakljipkaoahnaaGreatDoor
open Go.RowKit Go.Own Go.Own.MapTy Go.Va Go.Sort
open Go.Own.Cells (sz enc)
def lineL (n:Int)(s:ByteArray)(st:RSt):Int×RSt:=
 if isLab s=true then(if(MapTy.get st.labels (trimB s)).isSome=true then(5,st)else(0,{st with labels:=upd st.labels (trimB s) st.code.length}))else
 if Lib.hasPrefix s.data.toList [32,32]=false then(8,st)else
 match findL (cutN s)with
 |none=>(110,st)
 |some op=>
  if cutM s≠((ofL op).1.operand !=0)then(8,st)else
  if cutM s=true then(if(operL (ofL op).1.operand n (cutR s) st).2.1≠0 then((operL (ofL op).1.operand n (cutR s) st).2.1,(operL (ofL op).1.operand n (cutR s) st).2.2)else
   (0,{(operL (ofL op).1.operand n (cutR s) st).2.2 with code:=(operL (ofL op).1.operand n (cutR s) st).2.2.code++[⟨op,(operL (ofL op).1.operand n (cutR s) st).1⟩]}))else
  (0,{st with code:=st.code++[⟨op,0⟩]})
theorem beqS (x y:ByteArray):(x==y)=decide (x=y):=by
 show(x.data==y.data)=decide (x=y)
 rw[Bool.eq_iff_iff]
 simp[ByteArray.ext_iff]
theorem checkS (n:Nat)(em:Bool)(W:World)(x:ByteArray):(Instr.checkKey em (n+1) 9 (.string x)).run Tryz.prog W= .ok () W:=by simp[Instr.checkKey,go_sem]
theorem slaw:KLaw SM Tryz.prog 9:=KLaw.of_now Tryz.underlying9 (fun W em x=>checkS 9999 em W x) (fun x y=>by simp[SM,Instr.sameNow];exact beqS x y) (fun x=>by simp[SM,Instr.sameBits];exact(beqS x x).trans (by simp))
theorem look_lab {w:World}{b:Nat}{m:List (ByteArray×Int)}(h:MapAt SM w b m)(x:ByteArray):∀W:World,Same w b W→(Instr.lookup 82 (.map (some b)) (.string x) true).run Tryz.prog W= .ok (.tuple #[.int .i64 ((MapTy.get m x).getD 0),.bool (MapTy.get m x).isSome]) W:=by
 intro W hW
 have:=h.lookS slaw Tryz.underlying82 (z:=.int .i64 0) (fun W=>by kernel_rfl) x true W hW
 cases hg:MapTy.get m x with
 |none=>rw[hg]at this;exact this
 |some n=>rw[hg]at this;exact this
def LPost (Z:Nat→Prop)(W:World)(b:Nat)(v:RV)(r:Int×RSt)(e:Ending)(w':World):Prop:=∃v',e= .returned (.int .i64 r.1)∧Hid (RX Z w' b v' r.2∧RK b v W v' w')
theorem elemI:ElemOf In Tryz.prog 23 43 16:=elem_mk Tryz.underlying23 (z:=.agg #[.int .i64 0,.int .i64 0]) (n:=2) (by kernel_rfl) rfl rfl
theorem line_label
  {Z:Nat→Prop}(b:Nat)(v:RV)(st:RSt)(n:Int)(s:ByteArray)(W:World)(R:RX Z W b v st)(hs:s.size≤65536)
  (m:Nat)(hm:v.mb=some m)(h1:Lib.hasSuffix s.data.toList [58]=true)(h2:labL (trimB s).data.toList=true)(r:Int×RSt)(hr:(if(MapTy.get st.labels (trimB s)).isSome=true then(5,st)else((0:Int),{st with labels:=upd st.labels (trimB s) st.code.length}))=r):
  Calls Tryz.prog 35 #[.pointer (some ⟨b,0,none⟩),.int .i64 n,.string s] W (LPost Z W b v r)
  :=by
 have CSF:=zhd (show∀W,Calls Tryz.prog 33 #[.string s,.string ⟨#[58]⟩] W (fun e w'=>e= .returned (.tuple #[.string (trimB s),.bool true])∧w'=W)from fun W=>(Any.strings_CutSuffix Tryz.lays104 s ⟨#[58]⟩ W (by omega)).mono fun e w' ⟨j1,j2⟩=>⟨by rw[j1,show(⟨#[58]⟩:ByteArray).data.toList=[58]from rfl,h1];rfl,j2⟩)
 have htl:(trimB s).size≤65536:=by
  have e1:(trimB s).size=(Lib.trimSuffix s.data.toList [58]).length:=by show(Lib.trimSuffix s.data.toList [58]).toArray.size=_;simp
  rw[e1]
  unfold Lib.trimSuffix
  split
  ·simp;omega
  ·simp;omega
 have LAB:=zhd (show∀W,Calls Tryz.prog 83 #[.string (trimB s)] W (fun e w'=>e= .returned (.bool true)∧w'=W)from fun W=>(label_any (trimB s) W (by omega)).mono fun e w' ⟨j1,j2⟩=>⟨by rw[j1,h2],j2⟩)
 clear htl
 generalize trimB s=L at*
 clear h1 h2
 obtain⟨vc,vk,vn,vj,pl,mb⟩:=v
 obtain rfl:mb=some m:=hm
 obtain⟨ca,cc,rfl⟩:∃a cap,vc= .slice a st.code.length cap:=R.code.slice
 have b0:=zlt R.h
 have c4:=zca R.h 4 rfl
 have c0:=zca R.h 0 rfl
 have mlt:m<W.heap.size:=R.lt (.inr (.inl rfl))
 have hlook:=look_lab (R.labels m rfl) L
 have HR:=zh2 R hr
 clear R hr
 generalize hg:MapTy.get st.labels L=g at*
 cases g with
 |some k=>
  have hr:r=(5,st):=HR.out.2.symm
  subst hr
  clear hg
  go_enter Tryz.func35,Tryz.ntmps35
  go_wp2_with fail
  refine(CSF.out _).mono ?_
  rintro e w1 ⟨rfl,hw⟩
  rw[hw]
  clear hw w1
  go_wp2_with fail
  refine(LAB.out _).mono ?_
  rintro e w1 ⟨rfl,hw⟩
  rw[hw]
  clear hw w1
  go_wp2_with fail
  go_ret
  exact⟨_,rfl,zhd ⟨HR.out.1,RK.refl _ _ _⟩⟩
 |none=>
  have hr:r=(0,{st with labels:=upd st.labels L st.code.length}):=HR.out.2.symm
  subst hr
  clear hg
  obtain⟨o,hup,hmap⟩:=MapAt.store (HR.out.1.labels m rfl) slaw Tryz.underlying82 L (st.code.length:Int)
  have HM:=zhd hmap
  replace hup:∀X:World,Same W m X→(Instr.mapUpdate 82 (.map (some m)) (.string L) (.int .i64 st.code.length)).run Tryz.prog X= .ok () (setBlock X m o):=hup
  clear hmap
  have nmb:¬b=m:=fun e=>HR.out.1.sep.m m rfl e.symm
  go_enter Tryz.func35,Tryz.ntmps35
  go_wp2_with fail
  refine(CSF.out _).mono ?_
  rintro e w1 ⟨rfl,hw⟩
  rw[hw]
  clear hw w1
  go_wp2_with fail
  refine(LAB.out _).mono ?_
  rintro e w1 ⟨rfl,hw⟩
  rw[hw]
  clear hw w1
  go_wp2_with fail
  clear hlook
  go_region
  go_wp2_with fail
  have S:=HR.out.1.setLab rfl HM.out
  have HS:=zhd S
  clear S
  go_ret
  exact⟨_,rfl,zhd ⟨HS.out.1.ext (Below.refl _ _).drew,HS.out.2.trans (RK.ext (Below.refl _ _).drew)⟩⟩
theorem cut_len (s:ByteArray):(cutR s).size≤s.size∧(cutN s).size≤s.size∧(Lib.trimPrefix s.data.toList [32,32]).length≤s.size:=by
 have e1:(Lib.trimPrefix s.data.toList [32,32]).length≤s.size:=by
  unfold Lib.trimPrefix
  split
  ·simp
  ·simp
 have e2:(cutR s).size=(Lib.cut (Lib.trimPrefix s.data.toList [32,32]) [32]).2.1.length:=by show(Lib.cut (Lib.trimPrefix s.data.toList [32,32]) [32]).2.1.toArray.size=_;simp
 have e3:(cutN s).size=(Lib.cut (Lib.trimPrefix s.data.toList [32,32]) [32]).1.length:=by show(Lib.cut (Lib.trimPrefix s.data.toList [32,32]) [32]).1.toArray.size=_;simp
 rw[e2,e3]
 unfold Lib.cut
 split
 ·simp;omega
 ·simp;omega
theorem line_form
  {Z:Nat→Prop}(b:Nat)(v:RV)(st:RSt)(n:Int)(s:ByteArray)(W:World)(R:RX Z W b v st)(hs:s.size≤65536)
  (hA:Lib.hasSuffix s.data.toList [58]=false∨(Lib.hasSuffix s.data.toList [58]=true∧labL (trimB s).data.toList=false))(hp:Lib.hasPrefix s.data.toList [32,32]=false)(r:Int×RSt)(hr:r=(8,st)):
  Calls Tryz.prog 35 #[.pointer (some ⟨b,0,none⟩),.int .i64 n,.string s] W (LPost Z W b v r)
  :=by
 subst hr
 have CP:=zhd (show∀W,Calls Tryz.prog 84 #[.string s,.string ⟨#[32,32]⟩] W (fun e w'=>e= .returned (.tuple #[.string ⟨(Lib.trimPrefix s.data.toList [32,32]).toArray⟩,.bool false])∧w'=W)from fun W=>(Any.strings_CutPrefix Tryz.lays103 s ⟨#[32,32]⟩ W).mono fun e w' ⟨j1,j2⟩=>⟨by rw[j1,show(⟨#[32,32]⟩:ByteArray).data.toList=[32,32]from rfl,hp],j2⟩)
 rcases hA with hA|⟨hA,hB⟩
 ·skip
  have CSF:=zhd (show∀W,Calls Tryz.prog 33 #[.string s,.string ⟨#[58]⟩] W (fun e w'=>e= .returned (.tuple #[.string (trimB s),.bool false])∧w'=W)from fun W=>(Any.strings_CutSuffix Tryz.lays104 s ⟨#[58]⟩ W (by omega)).mono fun e w' ⟨j1,j2⟩=>⟨by rw[j1,show(⟨#[58]⟩:ByteArray).data.toList=[58]from rfl,hA];rfl,j2⟩)
  clear hA hp
  go_enter Tryz.func35,Tryz.ntmps35
  go_wp2_with fail
  refine(CSF.out _).mono ?_
  rintro e w1 ⟨rfl,hw⟩
  rw[hw]
  clear hw w1
  go_wp2_with fail
  refine(CP.out _).mono ?_
  rintro e w1 ⟨rfl,hw⟩
  rw[hw]
  clear hw w1
  go_wp2_with fail
  go_ret
  exact⟨_,rfl,zhd ⟨R,RK.refl _ _ _⟩⟩
 ·skip
  have CSF:=zhd (show∀W,Calls Tryz.prog 33 #[.string s,.string ⟨#[58]⟩] W (fun e w'=>e= .returned (.tuple #[.string (trimB s),.bool true])∧w'=W)from fun W=>(Any.strings_CutSuffix Tryz.lays104 s ⟨#[58]⟩ W (by omega)).mono fun e w' ⟨j1,j2⟩=>⟨by rw[j1,show(⟨#[58]⟩:ByteArray).data.toList=[58]from rfl,hA];rfl,j2⟩)
  have htl:(trimB s).size≤65536:=by
   have e1:(trimB s).size=(Lib.trimSuffix s.data.toList [58]).length:=by show(Lib.trimSuffix s.data.toList [58]).toArray.size=_;simp
   rw[e1]
   unfold Lib.trimSuffix
   split
   ·simp;omega
   ·simp;omega
  have LAB:=zhd (show∀W,Calls Tryz.prog 83 #[.string (trimB s)] W (fun e w'=>e= .returned (.bool false)∧w'=W)from fun W=>(label_any (trimB s) W (by omega)).mono fun e w' ⟨j1,j2⟩=>⟨by rw[j1,hB],j2⟩)
  clear htl
  clear hA hB hp
  go_enter Tryz.func35,Tryz.ntmps35
  go_wp2_with fail
  refine(CSF.out _).mono ?_
  rintro e w1 ⟨rfl,hw⟩
  rw[hw]
  clear hw w1
  go_wp2_with fail
  refine(LAB.out _).mono ?_
  rintro e w1 ⟨rfl,hw⟩
  rw[hw]
  clear hw w1
  go_wp2_with fail
  refine(CP.out _).mono ?_
  rintro e w1 ⟨rfl,hw⟩
  rw[hw]
  clear hw w1
  go_wp2_with fail
  go_ret
  exact⟨_,rfl,zhd ⟨R,RK.refl _ _ _⟩⟩
theorem line_op {N:Nat}
  {Z:Nat→Prop}(b:Nat)(v:RV)(st:RSt)(n:Int)(s:ByteArray)(W:World)(R:RX Z W b v st)(hs:s.size≤65536)
  (G:Gl Tryz.prog N W)(hA:Lib.hasSuffix s.data.toList [58]=false∨(Lib.hasSuffix s.data.toList [58]=true∧labL (trimB s).data.toList=false))(hp:Lib.hasPrefix s.data.toList [32,32]=true)(hf:findL (cutN s)=none)(r:Int×RSt)(hr:r=(110,st)):
  Calls Tryz.prog 35 #[.pointer (some ⟨b,0,none⟩),.int .i64 n,.string s] W (LPost Z W b v r)
  :=by
 subst hr
 have hcl:=cut_len s
 have CUT:=zhd (show Calls Tryz.prog 85 #[.string ⟨(Lib.trimPrefix s.data.toList [32,32]).toArray⟩,.string ⟨#[32]⟩] W (fun e w'=>e= .returned (.tuple #[.string (cutN s),.string (cutR s),.bool (cutM s)])∧Below W.heap.size W w')from by
  obtain⟨m,hm⟩:=G.m
  have hsz:(⟨(Lib.trimPrefix s.data.toList [32,32]).toArray⟩:ByteArray).size<4294967281:=by
   have e1:(⟨(Lib.trimPrefix s.data.toList [32,32]).toArray⟩:ByteArray).size=(Lib.trimPrefix s.data.toList [32,32]).length:=by show(Lib.trimPrefix s.data.toList [32,32]).toArray.size=_;simp
   rw[e1]
   omega
  exact(Any.strings_Cut Tryz.lays145 ⟨(Lib.trimPrefix s.data.toList [32,32]).toArray⟩ ⟨#[32]⟩ m W hsz hm).mono fun e w' ⟨j1,n,j2⟩=>⟨by rw[j1];unfold cutN cutR cutM;simp,by rw[j2];exact⟨rfl,rfl,rfl,Nat.le_refl _,fun _ _=>rfl⟩⟩)
 have FI:=zhd (show∀w,Calls Tryz.prog 86 #[.string (cutN s)] w (fun e w'=>e= .returned (.tuple #[.int .i64 0,.bool false])∧Below w.heap.size w w')from fun w=>(find_op (cutN s) w).mono fun e w' ⟨j1,j2⟩=>⟨by rw[j1,hf];rfl,j2⟩)
 clear hf G hcl
 have CP:=zhd (show∀W,Calls Tryz.prog 84 #[.string s,.string ⟨#[32,32]⟩] W (fun e w'=>e= .returned (.tuple #[.string ⟨(Lib.trimPrefix s.data.toList [32,32]).toArray⟩,.bool true])∧w'=W)from fun W=>(Any.strings_CutPrefix Tryz.lays103 s ⟨#[32,32]⟩ W).mono fun e w' ⟨j1,j2⟩=>⟨by rw[j1,show(⟨#[32,32]⟩:ByteArray).data.toList=[32,32]from rfl,hp],j2⟩)
 rcases hA with hA|⟨hA,hB⟩
 ·skip
  have CSF:=zhd (show∀W,Calls Tryz.prog 33 #[.string s,.string ⟨#[58]⟩] W (fun e w'=>e= .returned (.tuple #[.string (trimB s),.bool false])∧w'=W)from fun W=>(Any.strings_CutSuffix Tryz.lays104 s ⟨#[58]⟩ W (by omega)).mono fun e w' ⟨j1,j2⟩=>⟨by rw[j1,show(⟨#[58]⟩:ByteArray).data.toList=[58]from rfl,hA];rfl,j2⟩)
  clear hA hp
  go_enter Tryz.func35,Tryz.ntmps35
  go_wp2_with fail
  refine(CSF.out _).mono ?_
  rintro e w1 ⟨rfl,hw⟩
  rw[hw]
  clear hw w1
  go_wp2_with fail
  refine(CP.out _).mono ?_
  rintro e w1 ⟨rfl,hw⟩
  rw[hw]
  clear hw w1
  go_wp2_with fail
  refine CUT.out.mono ?_
  rintro e w2 ⟨rfl,hB2⟩
  have HB2:=zhd hB2
  clear hB2
  go_wp2_with fail
  refine(FI.out _).mono ?_
  rintro e w3 ⟨rfl,hB3⟩
  have HB3:=zhd (HB2.out.trans (hB3.mono HB2.out.size))
  clear hB3 HB2
  go_wp2_with fail
  go_ret
  exact⟨_,rfl,zhd ⟨R.ext HB3.out,RK.ext HB3.out⟩⟩
 ·skip
  have CSF:=zhd (show∀W,Calls Tryz.prog 33 #[.string s,.string ⟨#[58]⟩] W (fun e w'=>e= .returned (.tuple #[.string (trimB s),.bool true])∧w'=W)from fun W=>(Any.strings_CutSuffix Tryz.lays104 s ⟨#[58]⟩ W (by omega)).mono fun e w' ⟨j1,j2⟩=>⟨by rw[j1,show(⟨#[58]⟩:ByteArray).data.toList=[58]from rfl,hA];rfl,j2⟩)
  have htl:(trimB s).size≤65536:=by
   have e1:(trimB s).size=(Lib.trimSuffix s.data.toList [58]).length:=by show(Lib.trimSuffix s.data.toList [58]).toArray.size=_;simp
   rw[e1]
   unfold Lib.trimSuffix
   split
   ·simp;omega
   ·simp;omega
  have LAB:=zhd (show∀W,Calls Tryz.prog 83 #[.string (trimB s)] W (fun e w'=>e= .returned (.bool false)∧w'=W)from fun W=>(label_any (trimB s) W (by omega)).mono fun e w' ⟨j1,j2⟩=>⟨by rw[j1,hB],j2⟩)
  clear htl
  clear hA hB hp
  go_enter Tryz.func35,Tryz.ntmps35
  go_wp2_with fail
  refine(CSF.out _).mono ?_
  rintro e w1 ⟨rfl,hw⟩
  rw[hw]
  clear hw w1
  go_wp2_with fail
  refine(LAB.out _).mono ?_
  rintro e w1 ⟨rfl,hw⟩
  rw[hw]
  clear hw w1
  go_wp2_with fail
  refine(CP.out _).mono ?_
  rintro e w1 ⟨rfl,hw⟩
  rw[hw]
  clear hw w1
  go_wp2_with fail
  refine CUT.out.mono ?_
  rintro e w2 ⟨rfl,hB2⟩
  have HB2:=zhd hB2
  clear hB2
  go_wp2_with fail
  refine(FI.out _).mono ?_
  rintro e w3 ⟨rfl,hB3⟩
  have HB3:=zhd (HB2.out.trans (hB3.mono HB2.out.size))
  clear hB3 HB2
  go_wp2_with fail
  go_ret
  exact⟨_,rfl,zhd ⟨R.ext HB3.out,RK.ext HB3.out⟩⟩
theorem line_more {N:Nat}
  {Z:Nat→Prop}(b:Nat)(v:RV)(st:RSt)(n:Int)(s:ByteArray)(W:World)(R:RX Z W b v st)(hs:s.size≤65536)
  (G:Gl Tryz.prog N W)(hA:Lib.hasSuffix s.data.toList [58]=false∨(Lib.hasSuffix s.data.toList [58]=true∧labL (trimB s).data.toList=false))(hp:Lib.hasPrefix s.data.toList [32,32]=true)(op:Nat)(inf:Inf)(hf:findL (cutN s)=some op)(ho:(ofL op).1=inf)(bm bo:Bool)(hm:cutM s=bm)(hi:(inf.operand !=0)=bo)(hne:(bm=true∧bo=false)∨(bm=false∧bo=true))(r:Int×RSt)(hr:r=(8,st)):
  Calls Tryz.prog 35 #[.pointer (some ⟨b,0,none⟩),.int .i64 n,.string s] W (LPost Z W b v r)
  :=by
 subst hr
 have hcl:=cut_len s
 have CUT:=zhd (show Calls Tryz.prog 85 #[.string ⟨(Lib.trimPrefix s.data.toList [32,32]).toArray⟩,.string ⟨#[32]⟩] W (fun e w'=>e= .returned (.tuple #[.string (cutN s),.string (cutR s),.bool (cutM s)])∧Below W.heap.size W w')from by
  obtain⟨m,hm⟩:=G.m
  have hsz:(⟨(Lib.trimPrefix s.data.toList [32,32]).toArray⟩:ByteArray).size<4294967281:=by
   have e1:(⟨(Lib.trimPrefix s.data.toList [32,32]).toArray⟩:ByteArray).size=(Lib.trimPrefix s.data.toList [32,32]).length:=by show(Lib.trimPrefix s.data.toList [32,32]).toArray.size=_;simp
   rw[e1]
   omega
  exact(Any.strings_Cut Tryz.lays145 ⟨(Lib.trimPrefix s.data.toList [32,32]).toArray⟩ ⟨#[32]⟩ m W hsz hm).mono fun e w' ⟨j1,n,j2⟩=>⟨by rw[j1];unfold cutN cutR cutM;simp,by rw[j2];exact⟨rfl,rfl,rfl,Nat.le_refl _,fun _ _=>rfl⟩⟩)
 rw[hm]at CUT
 have FI:=zhd (show∀w,Calls Tryz.prog 86 #[.string (cutN s)] w (fun e w'=>e= .returned (.tuple #[.int .i64 op,.bool true])∧Below w.heap.size w w')from fun w=>(find_op (cutN s) w).mono fun e w' ⟨j1,j2⟩=>⟨by rw[j1,hf];rfl,j2⟩)
 have OF:=zhd (show∀w,Calls Tryz.prog 73 #[.int .i64 op] w (fun e w'=>e= .returned (.tuple #[.agg #[.string inf.name,.int .i64 inf.operand,.int .i64 inf.i,.int .i64 inf.o,.bool inf.blocks,.bool inf.ends,.bool inf.flow],.bool (ofL op).2])∧Below w.heap.size w w')from fun w=>(of_any op w).mono fun e w' ⟨j1,j2⟩=>⟨by rw[j1,ho];rfl,j2⟩)
 generalize(ofL op).2=ob at*
 clear hf G hcl ho hm
 rcases hne with⟨rfl,rfl⟩|⟨rfl,rfl⟩
 all_goals
  have CP:=zhd (show∀W,Calls Tryz.prog 84 #[.string s,.string ⟨#[32,32]⟩] W (fun e w'=>e= .returned (.tuple #[.string ⟨(Lib.trimPrefix s.data.toList [32,32]).toArray⟩,.bool true])∧w'=W)from fun W=>(Any.strings_CutPrefix Tryz.lays103 s ⟨#[32,32]⟩ W).mono fun e w' ⟨j1,j2⟩=>⟨by rw[j1,show(⟨#[32,32]⟩:ByteArray).data.toList=[32,32]from rfl,hp],j2⟩)
  rcases hA with hA|⟨hA,hB⟩
  ·skip
   have CSF:=zhd (show∀W,Calls Tryz.prog 33 #[.string s,.string ⟨#[58]⟩] W (fun e w'=>e= .returned (.tuple #[.string (trimB s),.bool false])∧w'=W)from fun W=>(Any.strings_CutSuffix Tryz.lays104 s ⟨#[58]⟩ W (by omega)).mono fun e w' ⟨j1,j2⟩=>⟨by rw[j1,show(⟨#[58]⟩:ByteArray).data.toList=[58]from rfl,hA];rfl,j2⟩)
   clear hA hp
   go_enter Tryz.func35,Tryz.ntmps35
   go_wp2_with fail
   refine(CSF.out _).mono ?_
   rintro e w1 ⟨rfl,hw⟩
   rw[hw]
   clear hw w1
   go_wp2_with fail
   refine(CP.out _).mono ?_
   rintro e w1 ⟨rfl,hw⟩
   rw[hw]
   clear hw w1
   go_wp2_with fail
   refine CUT.out.mono ?_
   rintro e w2 ⟨rfl,hB2⟩
   have HB2:=zhd hB2
   clear hB2
   go_wp2_with fail
   refine(FI.out _).mono ?_
   rintro e w3 ⟨rfl,hB3⟩
   have HB3:=zhd (HB2.out.trans (hB3.mono HB2.out.size))
   clear hB3 HB2
   go_wp2_with fail
   refine(OF.out _).mono ?_
   rintro e w5 ⟨rfl,hB5⟩
   have lt3:w3.heap.size<w5.heap.size:=by have:=hB5.size;simp at this;omega
   have i0:w5.cell? ⟨w3.heap.size,0,none⟩=some (.int .i64 op):=by rw[hB5.cell (p:=⟨w3.heap.size,0,none⟩) (by simp),zch (heap_alloc_new _ _)];rfl
   have i1:w5.cell? ⟨w3.heap.size,1,none⟩=some (.int .i64 0):=by rw[hB5.cell (p:=⟨w3.heap.size,1,none⟩) (by simp),zch (heap_alloc_new _ _)];rfl
   have ifr:∀o,w5.frozen? ⟨w3.heap.size,o,none⟩=false:=fun o=>by rw[hB5.frozen (p:=⟨w3.heap.size,o,none⟩) (by simp),zfr (heap_alloc_new _ _)]
   have HB5:=zhd ((HB3.out.alloc HB3.out.size (.cells #[.int .i64 op,.int .i64 0] 43)).trans (hB5.mono (by have:=HB3.out.size;simp;omega)))
   have s3:W.heap.size≤w3.heap.size:=HB3.out.size
   clear hB5
   go_wp2_with fail
   have BE:=HB5.out.alloc HB5.out.size (.cells #[.string inf.name,.int .i64 inf.operand,.int .i64 inf.i,.int .i64 inf.o,.bool inf.blocks,.bool inf.ends,.bool inf.flow] 148)
   go_ret
   exact⟨_,rfl,zhd ⟨R.ext BE,RK.ext BE⟩⟩
  ·skip
   have CSF:=zhd (show∀W,Calls Tryz.prog 33 #[.string s,.string ⟨#[58]⟩] W (fun e w'=>e= .returned (.tuple #[.string (trimB s),.bool true])∧w'=W)from fun W=>(Any.strings_CutSuffix Tryz.lays104 s ⟨#[58]⟩ W (by omega)).mono fun e w' ⟨j1,j2⟩=>⟨by rw[j1,show(⟨#[58]⟩:ByteArray).data.toList=[58]from rfl,hA];rfl,j2⟩)
   have htl:(trimB s).size≤65536:=by
    have e1:(trimB s).size=(Lib.trimSuffix s.data.toList [58]).length:=by show(Lib.trimSuffix s.data.toList [58]).toArray.size=_;simp
    rw[e1]
    unfold Lib.trimSuffix
    split
    ·simp;omega
    ·simp;omega
   have LAB:=zhd (show∀W,Calls Tryz.prog 83 #[.string (trimB s)] W (fun e w'=>e= .returned (.bool false)∧w'=W)from fun W=>(label_any (trimB s) W (by omega)).mono fun e w' ⟨j1,j2⟩=>⟨by rw[j1,hB],j2⟩)
   clear htl
   clear hA hB hp
   go_enter Tryz.func35,Tryz.ntmps35
   go_wp2_with fail
   refine(CSF.out _).mono ?_
   rintro e w1 ⟨rfl,hw⟩
   rw[hw]
   clear hw w1
   go_wp2_with fail
   refine(LAB.out _).mono ?_
   rintro e w1 ⟨rfl,hw⟩
   rw[hw]
   clear hw w1
   go_wp2_with fail
   refine(CP.out _).mono ?_
   rintro e w1 ⟨rfl,hw⟩
   rw[hw]
   clear hw w1
   go_wp2_with fail
   refine CUT.out.mono ?_
   rintro e w2 ⟨rfl,hB2⟩
   have HB2:=zhd hB2
   clear hB2
   go_wp2_with fail
   refine(FI.out _).mono ?_
   rintro e w3 ⟨rfl,hB3⟩
   have HB3:=zhd (HB2.out.trans (hB3.mono HB2.out.size))
   clear hB3 HB2
   go_wp2_with fail
   refine(OF.out _).mono ?_
   rintro e w5 ⟨rfl,hB5⟩
   have lt3:w3.heap.size<w5.heap.size:=by have:=hB5.size;simp at this;omega
   have i0:w5.cell? ⟨w3.heap.size,0,none⟩=some (.int .i64 op):=by rw[hB5.cell (p:=⟨w3.heap.size,0,none⟩) (by simp),zch (heap_alloc_new _ _)];rfl
   have i1:w5.cell? ⟨w3.heap.size,1,none⟩=some (.int .i64 0):=by rw[hB5.cell (p:=⟨w3.heap.size,1,none⟩) (by simp),zch (heap_alloc_new _ _)];rfl
   have ifr:∀o,w5.frozen? ⟨w3.heap.size,o,none⟩=false:=fun o=>by rw[hB5.frozen (p:=⟨w3.heap.size,o,none⟩) (by simp),zfr (heap_alloc_new _ _)]
   have HB5:=zhd ((HB3.out.alloc HB3.out.size (.cells #[.int .i64 op,.int .i64 0] 43)).trans (hB5.mono (by have:=HB3.out.size;simp;omega)))
   have s3:W.heap.size≤w3.heap.size:=HB3.out.size
   clear hB5
   go_wp2_with fail
   have BE:=HB5.out.alloc HB5.out.size (.cells #[.string inf.name,.int .i64 inf.operand,.int .i64 inf.i,.int .i64 inf.o,.bool inf.blocks,.bool inf.ends,.bool inf.flow] 148)
   go_ret
   exact⟨_,rfl,zhd ⟨R.ext BE,RK.ext BE⟩⟩
theorem line_none {N:Nat}
  {Z:Nat→Prop}(b:Nat)(v:RV)(st:RSt)(n:Int)(s:ByteArray)(W:World)(R:RX Z W b v st)(hs:s.size≤65536)
  (G:Gl Tryz.prog N W)(hA:Lib.hasSuffix s.data.toList [58]=false∨(Lib.hasSuffix s.data.toList [58]=true∧labL (trimB s).data.toList=false))(hp:Lib.hasPrefix s.data.toList [32,32]=true)(op:Nat)(inf:Inf)(hf:findL (cutN s)=some op)(ho:(ofL op).1=inf)(hm:cutM s=false)(hi:(inf.operand !=0)=false)(hc:st.code.length≤65536)(r:Int×RSt)(hr:r=(0,{st with code:=st.code++[⟨op,0⟩]})):
  Calls Tryz.prog 35 #[.pointer (some ⟨b,0,none⟩),.int .i64 n,.string s] W (LPost Z W b v r)
  :=by
 subst hr
 have hcl:=cut_len s
 have CUT:=zhd (show Calls Tryz.prog 85 #[.string ⟨(Lib.trimPrefix s.data.toList [32,32]).toArray⟩,.string ⟨#[32]⟩] W (fun e w'=>e= .returned (.tuple #[.string (cutN s),.string (cutR s),.bool (cutM s)])∧Below W.heap.size W w')from by
  obtain⟨m,hm⟩:=G.m
  have hsz:(⟨(Lib.trimPrefix s.data.toList [32,32]).toArray⟩:ByteArray).size<4294967281:=by
   have e1:(⟨(Lib.trimPrefix s.data.toList [32,32]).toArray⟩:ByteArray).size=(Lib.trimPrefix s.data.toList [32,32]).length:=by show(Lib.trimPrefix s.data.toList [32,32]).toArray.size=_;simp
   rw[e1]
   omega
  exact(Any.strings_Cut Tryz.lays145 ⟨(Lib.trimPrefix s.data.toList [32,32]).toArray⟩ ⟨#[32]⟩ m W hsz hm).mono fun e w' ⟨j1,n,j2⟩=>⟨by rw[j1];unfold cutN cutR cutM;simp,by rw[j2];exact⟨rfl,rfl,rfl,Nat.le_refl _,fun _ _=>rfl⟩⟩)
 rw[hm]at CUT
 have FI:=zhd (show∀w,Calls Tryz.prog 86 #[.string (cutN s)] w (fun e w'=>e= .returned (.tuple #[.int .i64 op,.bool true])∧Below w.heap.size w w')from fun w=>(find_op (cutN s) w).mono fun e w' ⟨j1,j2⟩=>⟨by rw[j1,hf];rfl,j2⟩)
 have OF:=zhd (show∀w,Calls Tryz.prog 73 #[.int .i64 op] w (fun e w'=>e= .returned (.tuple #[.agg #[.string inf.name,.int .i64 inf.operand,.int .i64 inf.i,.int .i64 inf.o,.bool inf.blocks,.bool inf.ends,.bool inf.flow],.bool (ofL op).2])∧Below w.heap.size w w')from fun w=>(of_any op w).mono fun e w' ⟨j1,j2⟩=>⟨by rw[j1,ho];rfl,j2⟩)
 generalize(ofL op).2=ob at*
 clear hf G hcl ho hm
 have CP:=zhd (show∀W,Calls Tryz.prog 84 #[.string s,.string ⟨#[32,32]⟩] W (fun e w'=>e= .returned (.tuple #[.string ⟨(Lib.trimPrefix s.data.toList [32,32]).toArray⟩,.bool true])∧w'=W)from fun W=>(Any.strings_CutPrefix Tryz.lays103 s ⟨#[32,32]⟩ W).mono fun e w' ⟨j1,j2⟩=>⟨by rw[j1,show(⟨#[32,32]⟩:ByteArray).data.toList=[32,32]from rfl,hp],j2⟩)
 rcases hA with hA|⟨hA,hB⟩
 ·skip
  have CSF:=zhd (show∀W,Calls Tryz.prog 33 #[.string s,.string ⟨#[58]⟩] W (fun e w'=>e= .returned (.tuple #[.string (trimB s),.bool false])∧w'=W)from fun W=>(Any.strings_CutSuffix Tryz.lays104 s ⟨#[58]⟩ W (by omega)).mono fun e w' ⟨j1,j2⟩=>⟨by rw[j1,show(⟨#[58]⟩:ByteArray).data.toList=[58]from rfl,hA];rfl,j2⟩)
  clear hA hp
  go_enter Tryz.func35,Tryz.ntmps35
  go_wp2_with fail
  refine(CSF.out _).mono ?_
  rintro e w1 ⟨rfl,hw⟩
  rw[hw]
  clear hw w1
  go_wp2_with fail
  refine(CP.out _).mono ?_
  rintro e w1 ⟨rfl,hw⟩
  rw[hw]
  clear hw w1
  go_wp2_with fail
  refine CUT.out.mono ?_
  rintro e w2 ⟨rfl,hB2⟩
  have HB2:=zhd hB2
  clear hB2
  go_wp2_with fail
  refine(FI.out _).mono ?_
  rintro e w3 ⟨rfl,hB3⟩
  have HB3:=zhd (HB2.out.trans (hB3.mono HB2.out.size))
  clear hB3 HB2
  go_wp2_with fail
  refine(OF.out _).mono ?_
  rintro e w5 ⟨rfl,hB5⟩
  have lt3:w3.heap.size<w5.heap.size:=by have:=hB5.size;simp at this;omega
  have i0:w5.cell? ⟨w3.heap.size,0,none⟩=some (.int .i64 op):=by rw[hB5.cell (p:=⟨w3.heap.size,0,none⟩) (by simp),zch (heap_alloc_new _ _)];rfl
  have i1:w5.cell? ⟨w3.heap.size,1,none⟩=some (.int .i64 0):=by rw[hB5.cell (p:=⟨w3.heap.size,1,none⟩) (by simp),zch (heap_alloc_new _ _)];rfl
  have ifr:∀o,w5.frozen? ⟨w3.heap.size,o,none⟩=false:=fun o=>by rw[hB5.frozen (p:=⟨w3.heap.size,o,none⟩) (by simp),zfr (heap_alloc_new _ _)]
  have HB5:=zhd ((HB3.out.alloc HB3.out.size (.cells #[.int .i64 op,.int .i64 0] 43)).trans (hB5.mono (by have:=HB3.out.size;simp;omega)))
  have s3:W.heap.size≤w3.heap.size:=HB3.out.size
  clear hB5
  obtain⟨w6,hw6⟩:∃w6,w6=w5.alloc (.cells #[.string inf.name,.int .i64 inf.operand,.int .i64 inf.i,.int .i64 inf.o,.bool inf.blocks,.bool inf.ends,.bool inf.flow] 148):=⟨_,rfl⟩
  have BE:Below W.heap.size W w6:=by rw[hw6];exact HB5.out.alloc HB5.out.size _
  have HRX:=zh2 (R.ext BE) (RK.ext (b:=b) (v:=v) BE)
  go_wp2_with fail
  rw[←hw6]
  have i0:w6.cell? ⟨w3.heap.size,0,none⟩=some (.int .i64 op):=by rw[hw6];exact(World.cell?_of_block (w:=w5) (Below.heap_alloc _ _ _ lt3)).trans i0
  have i1:w6.cell? ⟨w3.heap.size,1,none⟩=some (.int .i64 0):=by rw[hw6];exact(World.cell?_of_block (w:=w5) (Below.heap_alloc _ _ _ lt3)).trans i1
  have lt6:w3.heap.size<w6.heap.size:=by rw[hw6];simp;omega
  clear hw6 BE CUT FI OF
  obtain⟨vc,vk,vn,vj,pl,mb⟩:=v
  obtain⟨ca,cc,rfl⟩:∃a cap,vc= .slice a st.code.length cap:=HRX.out.1.code.slice
  have b0:b<w6.heap.size:=zlt HRX.out.1.h
  have c0:=zca HRX.out.1.h 0 rfl
  have f0:∀o,w6.frozen? ⟨b,o,none⟩=false:=fun o=>zfr HRX.out.1.h o
  have NB:=zhd (show∀g,(Value.slice ca st.code.length cc).ownBlock=some g→g≠b from fun g hg=>(HRX.out.1.sep.c g hg).1)
  have HBD:=zhd (show(st.code.length+[(⟨op,0⟩:In)].length)*16≤140737488355328∧st.code.length+[(⟨op,0⟩:In)].length≤maxLen∧st.code.length+[(⟨op,0⟩:In)].length=st.code.length+1 from by unfold maxLen;simp;omega)
  go_region_law
   ((refine step_apps (α:=In) (o:=⟨some 105,_,_,_,_,_⟩) elemI (by rfl) (.tmp 102) (.tmp 104) (by rfl) (v:=.slice ca st.code.length cc) (u:=.slice (some ⟨w6.heap.size,0,none⟩) 1 1) (by rfl) (by rfl) (xs:=st.code) (ys:=[⟨op,0⟩]) ((HRX.out.1.code.drew).alloc _) (RowAt.lit (α:=In) (y:=⟨op,0⟩) (heap_alloc_new _ _)) HBD.out.1 HBD.out.2.1 (st.code.length+1) HBD.out.2.2 ?_;intro a1 cp w9 hr1 hk1 hf1;have hb1:=(hk1.block b (by simp;omega) (fun e=>NB.out b e rfl)).trans ((Below.heap_alloc w6.drew _ _ b0).trans HRX.out.1.h);have y1:w9.cell? ⟨b,0,none⟩=some (.slice ca st.code.length cc):=by{rw[zch hb1];rfl};have y3:∀o,w9.frozen? ⟨b,o,none⟩=false:=fun o=>zfr hb1 o;have b1:b<w9.heap.size:=zlt hb1;have FF:=zh3 hr1 hk1 hf1;clear hr1 hk1 hf1 hb1))
  all_goals
   have S:=(HRX.out.1.ext (((Below.refl _ w6).drew).alloc (Nat.le_refl _) (.cells #[.int .i64 op,.int .i64 0] 43))).setCode FF.out.1 FF.out.2.1 FF.out.2.2
   have HS:=zhd S
   clear S
   go_wp2_with fail
   go_ret
   exact⟨_,rfl,zhd ⟨HS.out.1,HRX.out.2.trans ((RK.ext (((Below.refl _ w6).drew).alloc (Nat.le_refl _) _)).trans HS.out.2)⟩⟩
 ·skip
  have CSF:=zhd (show∀W,Calls Tryz.prog 33 #[.string s,.string ⟨#[58]⟩] W (fun e w'=>e= .returned (.tuple #[.string (trimB s),.bool true])∧w'=W)from fun W=>(Any.strings_CutSuffix Tryz.lays104 s ⟨#[58]⟩ W (by omega)).mono fun e w' ⟨j1,j2⟩=>⟨by rw[j1,show(⟨#[58]⟩:ByteArray).data.toList=[58]from rfl,hA];rfl,j2⟩)
  have htl:(trimB s).size≤65536:=by
   have e1:(trimB s).size=(Lib.trimSuffix s.data.toList [58]).length:=by show(Lib.trimSuffix s.data.toList [58]).toArray.size=_;simp
   rw[e1]
   unfold Lib.trimSuffix
   split
   ·simp;omega
   ·simp;omega
  have LAB:=zhd (show∀W,Calls Tryz.prog 83 #[.string (trimB s)] W (fun e w'=>e= .returned (.bool false)∧w'=W)from fun W=>(label_any (trimB s) W (by omega)).mono fun e w' ⟨j1,j2⟩=>⟨by rw[j1,hB],j2⟩)
  clear htl
  clear hA hB hp
  go_enter Tryz.func35,Tryz.ntmps35
  go_wp2_with fail
  refine(CSF.out _).mono ?_
  rintro e w1 ⟨rfl,hw⟩
  rw[hw]
  clear hw w1
  go_wp2_with fail
  refine(LAB.out _).mono ?_
  rintro e w1 ⟨rfl,hw⟩
  rw[hw]
  clear hw w1
  go_wp2_with fail
  refine(CP.out _).mono ?_
  rintro e w1 ⟨rfl,hw⟩
  rw[hw]
  clear hw w1
  go_wp2_with fail
  refine CUT.out.mono ?_
  rintro e w2 ⟨rfl,hB2⟩
  have HB2:=zhd hB2
  clear hB2
  go_wp2_with fail
  refine(FI.out _).mono ?_
  rintro e w3 ⟨rfl,hB3⟩
  have HB3:=zhd (HB2.out.trans (hB3.mono HB2.out.size))
  clear hB3 HB2
  go_wp2_with fail
  refine(OF.out _).mono ?_
  rintro e w5 ⟨rfl,hB5⟩
  have lt3:w3.heap.size<w5.heap.size:=by have:=hB5.size;simp at this;omega
  have i0:w5.cell? ⟨w3.heap.size,0,none⟩=some (.int .i64 op):=by rw[hB5.cell (p:=⟨w3.heap.size,0,none⟩) (by simp),zch (heap_alloc_new _ _)];rfl
  have i1:w5.cell? ⟨w3.heap.size,1,none⟩=some (.int .i64 0):=by rw[hB5.cell (p:=⟨w3.heap.size,1,none⟩) (by simp),zch (heap_alloc_new _ _)];rfl
  have ifr:∀o,w5.frozen? ⟨w3.heap.size,o,none⟩=false:=fun o=>by rw[hB5.frozen (p:=⟨w3.heap.size,o,none⟩) (by simp),zfr (heap_alloc_new _ _)]
  have HB5:=zhd ((HB3.out.alloc HB3.out.size (.cells #[.int .i64 op,.int .i64 0] 43)).trans (hB5.mono (by have:=HB3.out.size;simp;omega)))
  have s3:W.heap.size≤w3.heap.size:=HB3.out.size
  clear hB5
  obtain⟨w6,hw6⟩:∃w6,w6=w5.alloc (.cells #[.string inf.name,.int .i64 inf.operand,.int .i64 inf.i,.int .i64 inf.o,.bool inf.blocks,.bool inf.ends,.bool inf.flow] 148):=⟨_,rfl⟩
  have BE:Below W.heap.size W w6:=by rw[hw6];exact HB5.out.alloc HB5.out.size _
  have HRX:=zh2 (R.ext BE) (RK.ext (b:=b) (v:=v) BE)
  go_wp2_with fail
  rw[←hw6]
  have i0:w6.cell? ⟨w3.heap.size,0,none⟩=some (.int .i64 op):=by rw[hw6];exact(World.cell?_of_block (w:=w5) (Below.heap_alloc _ _ _ lt3)).trans i0
  have i1:w6.cell? ⟨w3.heap.size,1,none⟩=some (.int .i64 0):=by rw[hw6];exact(World.cell?_of_block (w:=w5) (Below.heap_alloc _ _ _ lt3)).trans i1
  have lt6:w3.heap.size<w6.heap.size:=by rw[hw6];simp;omega
  clear hw6 BE CUT FI OF
  obtain⟨vc,vk,vn,vj,pl,mb⟩:=v
  obtain⟨ca,cc,rfl⟩:∃a cap,vc= .slice a st.code.length cap:=HRX.out.1.code.slice
  have b0:b<w6.heap.size:=zlt HRX.out.1.h
  have c0:=zca HRX.out.1.h 0 rfl
  have f0:∀o,w6.frozen? ⟨b,o,none⟩=false:=fun o=>zfr HRX.out.1.h o
  have NB:=zhd (show∀g,(Value.slice ca st.code.length cc).ownBlock=some g→g≠b from fun g hg=>(HRX.out.1.sep.c g hg).1)
  have HBD:=zhd (show(st.code.length+[(⟨op,0⟩:In)].length)*16≤140737488355328∧st.code.length+[(⟨op,0⟩:In)].length≤maxLen∧st.code.length+[(⟨op,0⟩:In)].length=st.code.length+1 from by unfold maxLen;simp;omega)
  go_region_law
   ((refine step_apps (α:=In) (o:=⟨some 105,_,_,_,_,_⟩) elemI (by rfl) (.tmp 102) (.tmp 104) (by rfl) (v:=.slice ca st.code.length cc) (u:=.slice (some ⟨w6.heap.size,0,none⟩) 1 1) (by rfl) (by rfl) (xs:=st.code) (ys:=[⟨op,0⟩]) ((HRX.out.1.code.drew).alloc _) (RowAt.lit (α:=In) (y:=⟨op,0⟩) (heap_alloc_new _ _)) HBD.out.1 HBD.out.2.1 (st.code.length+1) HBD.out.2.2 ?_;intro a1 cp w9 hr1 hk1 hf1;have hb1:=(hk1.block b (by simp;omega) (fun e=>NB.out b e rfl)).trans ((Below.heap_alloc w6.drew _ _ b0).trans HRX.out.1.h);have y1:w9.cell? ⟨b,0,none⟩=some (.slice ca st.code.length cc):=by{rw[zch hb1];rfl};have y3:∀o,w9.frozen? ⟨b,o,none⟩=false:=fun o=>zfr hb1 o;have b1:b<w9.heap.size:=zlt hb1;have FF:=zh3 hr1 hk1 hf1;clear hr1 hk1 hf1 hb1))
  all_goals
   have S:=(HRX.out.1.ext (((Below.refl _ w6).drew).alloc (Nat.le_refl _) (.cells #[.int .i64 op,.int .i64 0] 43))).setCode FF.out.1 FF.out.2.1 FF.out.2.2
   have HS:=zhd S
   clear S
   go_wp2_with fail
   go_ret
   exact⟨_,rfl,zhd ⟨HS.out.1,HRX.out.2.trans ((RK.ext (((Below.refl _ w6).drew).alloc (Nat.le_refl _) _)).trans HS.out.2)⟩⟩
theorem line_bad {N:Nat}
  {Z:Nat→Prop}(b:Nat)(v:RV)(st:RSt)(n:Int)(s:ByteArray)(W:World)(R:RX Z W b v st)(hs:s.size≤65536)
  (G:Gl Tryz.prog N W)(hA:Lib.hasSuffix s.data.toList [58]=false∨(Lib.hasSuffix s.data.toList [58]=true∧labL (trimB s).data.toList=false))(hp:Lib.hasPrefix s.data.toList [32,32]=true)(op:Nat)(inf:Inf)(hf:findL (cutN s)=some op)(ho:(ofL op).1=inf)(hm:cutM s=true)(hi:(inf.operand !=0)=true)(oa er:Int)(st':RSt)
  (hZ:∀j,W.heap.size≤j→Z j)(OA:∀Z1 w6,(∀j,w6.heap.size≤j→Z1 j)→RX Z1 w6 b v st→Gl Tryz.prog N w6→Calls Tryz.prog 87 #[.pointer (some ⟨b,0,none⟩),.int .i64 inf.operand,.int .i64 n,.string (cutR s)] w6 (OPost Z1 w6 b v (oa,er,st')))(he:(er !=0)=true)(r:Int×RSt)(hr:r=(er,st')):
  Calls Tryz.prog 35 #[.pointer (some ⟨b,0,none⟩),.int .i64 n,.string s] W (LPost Z W b v r)
  :=by
 subst hr
 have hcl:=cut_len s
 have CUT:=zhd (show Calls Tryz.prog 85 #[.string ⟨(Lib.trimPrefix s.data.toList [32,32]).toArray⟩,.string ⟨#[32]⟩] W (fun e w'=>e= .returned (.tuple #[.string (cutN s),.string (cutR s),.bool (cutM s)])∧Below W.heap.size W w')from by
  obtain⟨m,hm⟩:=G.m
  have hsz:(⟨(Lib.trimPrefix s.data.toList [32,32]).toArray⟩:ByteArray).size<4294967281:=by
   have e1:(⟨(Lib.trimPrefix s.data.toList [32,32]).toArray⟩:ByteArray).size=(Lib.trimPrefix s.data.toList [32,32]).length:=by show(Lib.trimPrefix s.data.toList [32,32]).toArray.size=_;simp
   rw[e1]
   omega
  exact(Any.strings_Cut Tryz.lays145 ⟨(Lib.trimPrefix s.data.toList [32,32]).toArray⟩ ⟨#[32]⟩ m W hsz hm).mono fun e w' ⟨j1,n,j2⟩=>⟨by rw[j1];unfold cutN cutR cutM;simp,by rw[j2];exact⟨rfl,rfl,rfl,Nat.le_refl _,fun _ _=>rfl⟩⟩)
 rw[hm]at CUT
 have FI:=zhd (show∀w,Calls Tryz.prog 86 #[.string (cutN s)] w (fun e w'=>e= .returned (.tuple #[.int .i64 op,.bool true])∧Below w.heap.size w w')from fun w=>(find_op (cutN s) w).mono fun e w' ⟨j1,j2⟩=>⟨by rw[j1,hf];rfl,j2⟩)
 have OF:=zhd (show∀w,Calls Tryz.prog 73 #[.int .i64 op] w (fun e w'=>e= .returned (.tuple #[.agg #[.string inf.name,.int .i64 inf.operand,.int .i64 inf.i,.int .i64 inf.o,.bool inf.blocks,.bool inf.ends,.bool inf.flow],.bool (ofL op).2])∧Below w.heap.size w w')from fun w=>(of_any op w).mono fun e w' ⟨j1,j2⟩=>⟨by rw[j1,ho];rfl,j2⟩)
 generalize(ofL op).2=ob at*
 have OA:=zhd OA
 clear hf hcl ho hm
 have CP:=zhd (show∀W,Calls Tryz.prog 84 #[.string s,.string ⟨#[32,32]⟩] W (fun e w'=>e= .returned (.tuple #[.string ⟨(Lib.trimPrefix s.data.toList [32,32]).toArray⟩,.bool true])∧w'=W)from fun W=>(Any.strings_CutPrefix Tryz.lays103 s ⟨#[32,32]⟩ W).mono fun e w' ⟨j1,j2⟩=>⟨by rw[j1,show(⟨#[32,32]⟩:ByteArray).data.toList=[32,32]from rfl,hp],j2⟩)
 rcases hA with hA|⟨hA,hB⟩
 ·skip
  have CSF:=zhd (show∀W,Calls Tryz.prog 33 #[.string s,.string ⟨#[58]⟩] W (fun e w'=>e= .returned (.tuple #[.string (trimB s),.bool false])∧w'=W)from fun W=>(Any.strings_CutSuffix Tryz.lays104 s ⟨#[58]⟩ W (by omega)).mono fun e w' ⟨j1,j2⟩=>⟨by rw[j1,show(⟨#[58]⟩:ByteArray).data.toList=[58]from rfl,hA];rfl,j2⟩)
  clear hA hp
  go_enter Tryz.func35,Tryz.ntmps35
  go_wp2_with fail
  refine(CSF.out _).mono ?_
  rintro e w1 ⟨rfl,hw⟩
  rw[hw]
  clear hw w1
  go_wp2_with fail
  refine(CP.out _).mono ?_
  rintro e w1 ⟨rfl,hw⟩
  rw[hw]
  clear hw w1
  go_wp2_with fail
  refine CUT.out.mono ?_
  rintro e w2 ⟨rfl,hB2⟩
  have HB2:=zhd hB2
  clear hB2
  go_wp2_with fail
  refine(FI.out _).mono ?_
  rintro e w3 ⟨rfl,hB3⟩
  have HB3:=zhd (HB2.out.trans (hB3.mono HB2.out.size))
  clear hB3 HB2
  go_wp2_with fail
  refine(OF.out _).mono ?_
  rintro e w5 ⟨rfl,hB5⟩
  have lt3:w3.heap.size<w5.heap.size:=by have:=hB5.size;simp at this;omega
  have i0:w5.cell? ⟨w3.heap.size,0,none⟩=some (.int .i64 op):=by rw[hB5.cell (p:=⟨w3.heap.size,0,none⟩) (by simp),zch (heap_alloc_new _ _)];rfl
  have i1:w5.cell? ⟨w3.heap.size,1,none⟩=some (.int .i64 0):=by rw[hB5.cell (p:=⟨w3.heap.size,1,none⟩) (by simp),zch (heap_alloc_new _ _)];rfl
  have ifr:∀o,w5.frozen? ⟨w3.heap.size,o,none⟩=false:=fun o=>by rw[hB5.frozen (p:=⟨w3.heap.size,o,none⟩) (by simp),zfr (heap_alloc_new _ _)]
  have HB5:=zhd ((HB3.out.alloc HB3.out.size (.cells #[.int .i64 op,.int .i64 0] 43)).trans (hB5.mono (by have:=HB3.out.size;simp;omega)))
  have s3:W.heap.size≤w3.heap.size:=HB3.out.size
  clear hB5
  obtain⟨w6,hw6⟩:∃w6,w6=w5.alloc (.cells #[.string inf.name,.int .i64 inf.operand,.int .i64 inf.i,.int .i64 inf.o,.bool inf.blocks,.bool inf.ends,.bool inf.flow] 148):=⟨_,rfl⟩
  have BE:Below W.heap.size W w6:=by rw[hw6];exact HB5.out.alloc HB5.out.size _
  have HB6:=zh2 (R.ext BE) (RK.ext (b:=b) (v:=v) BE)
  have i0:w6.cell? ⟨w3.heap.size,0,none⟩=some (.int .i64 op):=by rw[hw6];exact(World.cell?_of_block (w:=w5) (Below.heap_alloc _ _ _ lt3)).trans i0
  have i1:w6.cell? ⟨w3.heap.size,1,none⟩=some (.int .i64 0):=by rw[hw6];exact(World.cell?_of_block (w:=w5) (Below.heap_alloc _ _ _ lt3)).trans i1
  have if6:∀o,w6.frozen? ⟨w3.heap.size,o,none⟩=false:=fun o=>by rw[hw6];exact(World.frozen?_of_block (w:=w5) (Below.heap_alloc _ _ _ lt3)).trans (ifr o)
  have lt6:w3.heap.size<w6.heap.size:=by rw[hw6];simp;omega
  have OC:=zhd (OA.out (fun j=>Z j∧j≠w3.heap.size) w6 (fun j hj=>⟨hZ j (by have:=BE.size;omega),by omega⟩) ((R.monoZ (fun j hj hl=>⟨hj,by omega⟩)).ext BE) (G.below BE))
  go_wp2_with fail
  rw[←hw6]
  refine OC.out.mono ?_
  rintro e w7 ⟨v',rfl,H7⟩
  have nro:¬RO v b w3.heap.size:=fun h=>by have:=R.lt h;omega
  have j0:=(H7.out.2.1.cell (p:=⟨w3.heap.size,0,none⟩) lt6 nro).trans i0
  have j1:=(H7.out.2.1.cell (p:=⟨w3.heap.size,1,none⟩) lt6 nro).trans i1
  have jf:∀o,w7.frozen? ⟨w3.heap.size,o,none⟩=false:=fun o=>(H7.out.2.1.frozen (p:=⟨w3.heap.size,o,none⟩) lt6 nro).trans (if6 o)
  have lt7:w3.heap.size<w7.heap.size:=Nat.lt_of_lt_of_le lt6 H7.out.2.1.size
  have nro':¬RO v' b w3.heap.size:=fun h=>by
   rcases H7.out.2.2.1 _ h with h|h
   ·exact nro h
   ·omega
  have HRO:=zh2 nro' (HB6.out.2.trans H7.out.2)
  clear hw6 BE CUT FI OF OC i0 i1 if6 ifr nro nro'
  go_wp2_with fail
  go_ret
  exact⟨v',rfl,zhd ⟨H7.out.1.monoZ (fun j h _=>h.1),HRO.out.2⟩⟩
 ·skip
  have CSF:=zhd (show∀W,Calls Tryz.prog 33 #[.string s,.string ⟨#[58]⟩] W (fun e w'=>e= .returned (.tuple #[.string (trimB s),.bool true])∧w'=W)from fun W=>(Any.strings_CutSuffix Tryz.lays104 s ⟨#[58]⟩ W (by omega)).mono fun e w' ⟨j1,j2⟩=>⟨by rw[j1,show(⟨#[58]⟩:ByteArray).data.toList=[58]from rfl,hA];rfl,j2⟩)
  have htl:(trimB s).size≤65536:=by
   have e1:(trimB s).size=(Lib.trimSuffix s.data.toList [58]).length:=by show(Lib.trimSuffix s.data.toList [58]).toArray.size=_;simp
   rw[e1]
   unfold Lib.trimSuffix
   split
   ·simp;omega
   ·simp;omega
  have LAB:=zhd (show∀W,Calls Tryz.prog 83 #[.string (trimB s)] W (fun e w'=>e= .returned (.bool false)∧w'=W)from fun W=>(label_any (trimB s) W (by omega)).mono fun e w' ⟨j1,j2⟩=>⟨by rw[j1,hB],j2⟩)
  clear htl
  clear hA hB hp
  go_enter Tryz.func35,Tryz.ntmps35
  go_wp2_with fail
  refine(CSF.out _).mono ?_
  rintro e w1 ⟨rfl,hw⟩
  rw[hw]
  clear hw w1
  go_wp2_with fail
  refine(LAB.out _).mono ?_
  rintro e w1 ⟨rfl,hw⟩
  rw[hw]
  clear hw w1
  go_wp2_with fail
  refine(CP.out _).mono ?_
  rintro e w1 ⟨rfl,hw⟩
  rw[hw]
  clear hw w1
  go_wp2_with fail
  refine CUT.out.mono ?_
  rintro e w2 ⟨rfl,hB2⟩
  have HB2:=zhd hB2
  clear hB2
  go_wp2_with fail
  refine(FI.out _).mono ?_
  rintro e w3 ⟨rfl,hB3⟩
  have HB3:=zhd (HB2.out.trans (hB3.mono HB2.out.size))
  clear hB3 HB2
  go_wp2_with fail
  refine(OF.out _).mono ?_
  rintro e w5 ⟨rfl,hB5⟩
  have lt3:w3.heap.size<w5.heap.size:=by have:=hB5.size;simp at this;omega
  have i0:w5.cell? ⟨w3.heap.size,0,none⟩=some (.int .i64 op):=by rw[hB5.cell (p:=⟨w3.heap.size,0,none⟩) (by simp),zch (heap_alloc_new _ _)];rfl
  have i1:w5.cell? ⟨w3.heap.size,1,none⟩=some (.int .i64 0):=by rw[hB5.cell (p:=⟨w3.heap.size,1,none⟩) (by simp),zch (heap_alloc_new _ _)];rfl
  have ifr:∀o,w5.frozen? ⟨w3.heap.size,o,none⟩=false:=fun o=>by rw[hB5.frozen (p:=⟨w3.heap.size,o,none⟩) (by simp),zfr (heap_alloc_new _ _)]
  have HB5:=zhd ((HB3.out.alloc HB3.out.size (.cells #[.int .i64 op,.int .i64 0] 43)).trans (hB5.mono (by have:=HB3.out.size;simp;omega)))
  have s3:W.heap.size≤w3.heap.size:=HB3.out.size
  clear hB5
  obtain⟨w6,hw6⟩:∃w6,w6=w5.alloc (.cells #[.string inf.name,.int .i64 inf.operand,.int .i64 inf.i,.int .i64 inf.o,.bool inf.blocks,.bool inf.ends,.bool inf.flow] 148):=⟨_,rfl⟩
  have BE:Below W.heap.size W w6:=by rw[hw6];exact HB5.out.alloc HB5.out.size _
  have HB6:=zh2 (R.ext BE) (RK.ext (b:=b) (v:=v) BE)
  have i0:w6.cell? ⟨w3.heap.size,0,none⟩=some (.int .i64 op):=by rw[hw6];exact(World.cell?_of_block (w:=w5) (Below.heap_alloc _ _ _ lt3)).trans i0
  have i1:w6.cell? ⟨w3.heap.size,1,none⟩=some (.int .i64 0):=by rw[hw6];exact(World.cell?_of_block (w:=w5) (Below.heap_alloc _ _ _ lt3)).trans i1
  have if6:∀o,w6.frozen? ⟨w3.heap.size,o,none⟩=false:=fun o=>by rw[hw6];exact(World.frozen?_of_block (w:=w5) (Below.heap_alloc _ _ _ lt3)).trans (ifr o)
  have lt6:w3.heap.size<w6.heap.size:=by rw[hw6];simp;omega
  have OC:=zhd (OA.out (fun j=>Z j∧j≠w3.heap.size) w6 (fun j hj=>⟨hZ j (by have:=BE.size;omega),by omega⟩) ((R.monoZ (fun j hj hl=>⟨hj,by omega⟩)).ext BE) (G.below BE))
  go_wp2_with fail
  rw[←hw6]
  refine OC.out.mono ?_
  rintro e w7 ⟨v',rfl,H7⟩
  have nro:¬RO v b w3.heap.size:=fun h=>by have:=R.lt h;omega
  have j0:=(H7.out.2.1.cell (p:=⟨w3.heap.size,0,none⟩) lt6 nro).trans i0
  have j1:=(H7.out.2.1.cell (p:=⟨w3.heap.size,1,none⟩) lt6 nro).trans i1
  have jf:∀o,w7.frozen? ⟨w3.heap.size,o,none⟩=false:=fun o=>(H7.out.2.1.frozen (p:=⟨w3.heap.size,o,none⟩) lt6 nro).trans (if6 o)
  have lt7:w3.heap.size<w7.heap.size:=Nat.lt_of_lt_of_le lt6 H7.out.2.1.size
  have nro':¬RO v' b w3.heap.size:=fun h=>by
   rcases H7.out.2.2.1 _ h with h|h
   ·exact nro h
   ·omega
  have HRO:=zh2 nro' (HB6.out.2.trans H7.out.2)
  clear hw6 BE CUT FI OF OC i0 i1 if6 ifr nro nro'
  go_wp2_with fail
  go_ret
  exact⟨v',rfl,zhd ⟨H7.out.1.monoZ (fun j h _=>h.1),HRO.out.2⟩⟩
theorem line_good {N:Nat}
  {Z:Nat→Prop}(b:Nat)(v:RV)(st:RSt)(n:Int)(s:ByteArray)(W:World)(R:RX Z W b v st)(hs:s.size≤65536)
  (G:Gl Tryz.prog N W)(hA:Lib.hasSuffix s.data.toList [58]=false∨(Lib.hasSuffix s.data.toList [58]=true∧labL (trimB s).data.toList=false))(hp:Lib.hasPrefix s.data.toList [32,32]=true)(op:Nat)(inf:Inf)(hf:findL (cutN s)=some op)(ho:(ofL op).1=inf)(hm:cutM s=true)(hi:(inf.operand !=0)=true)(oa:Int)(st':RSt)
  (hZ:∀j,W.heap.size≤j→Z j)(OA:∀Z1 w6,(∀j,w6.heap.size≤j→Z1 j)→RX Z1 w6 b v st→Gl Tryz.prog N w6→Calls Tryz.prog 87 #[.pointer (some ⟨b,0,none⟩),.int .i64 inf.operand,.int .i64 n,.string (cutR s)] w6 (OPost Z1 w6 b v (oa,0,st')))(hc:st'.code.length≤65536)(r:Int×RSt)(hr:r=(0,{st' with code:=st'.code++[⟨op,oa⟩]})):
  Calls Tryz.prog 35 #[.pointer (some ⟨b,0,none⟩),.int .i64 n,.string s] W (LPost Z W b v r)
  :=by
 subst hr
 have hcl:=cut_len s
 have CUT:=zhd (show Calls Tryz.prog 85 #[.string ⟨(Lib.trimPrefix s.data.toList [32,32]).toArray⟩,.string ⟨#[32]⟩] W (fun e w'=>e= .returned (.tuple #[.string (cutN s),.string (cutR s),.bool (cutM s)])∧Below W.heap.size W w')from by
  obtain⟨m,hm⟩:=G.m
  have hsz:(⟨(Lib.trimPrefix s.data.toList [32,32]).toArray⟩:ByteArray).size<4294967281:=by
   have e1:(⟨(Lib.trimPrefix s.data.toList [32,32]).toArray⟩:ByteArray).size=(Lib.trimPrefix s.data.toList [32,32]).length:=by show(Lib.trimPrefix s.data.toList [32,32]).toArray.size=_;simp
   rw[e1]
   omega
  exact(Any.strings_Cut Tryz.lays145 ⟨(Lib.trimPrefix s.data.toList [32,32]).toArray⟩ ⟨#[32]⟩ m W hsz hm).mono fun e w' ⟨j1,n,j2⟩=>⟨by rw[j1];unfold cutN cutR cutM;simp,by rw[j2];exact⟨rfl,rfl,rfl,Nat.le_refl _,fun _ _=>rfl⟩⟩)
 rw[hm]at CUT
 have FI:=zhd (show∀w,Calls Tryz.prog 86 #[.string (cutN s)] w (fun e w'=>e= .returned (.tuple #[.int .i64 op,.bool true])∧Below w.heap.size w w')from fun w=>(find_op (cutN s) w).mono fun e w' ⟨j1,j2⟩=>⟨by rw[j1,hf];rfl,j2⟩)
 have OF:=zhd (show∀w,Calls Tryz.prog 73 #[.int .i64 op] w (fun e w'=>e= .returned (.tuple #[.agg #[.string inf.name,.int .i64 inf.operand,.int .i64 inf.i,.int .i64 inf.o,.bool inf.blocks,.bool inf.ends,.bool inf.flow],.bool (ofL op).2])∧Below w.heap.size w w')from fun w=>(of_any op w).mono fun e w' ⟨j1,j2⟩=>⟨by rw[j1,ho];rfl,j2⟩)
 generalize(ofL op).2=ob at*
 have OA:=zhd OA
 clear hf hcl ho hm
 have CP:=zhd (show∀W,Calls Tryz.prog 84 #[.string s,.string ⟨#[32,32]⟩] W (fun e w'=>e= .returned (.tuple #[.string ⟨(Lib.trimPrefix s.data.toList [32,32]).toArray⟩,.bool true])∧w'=W)from fun W=>(Any.strings_CutPrefix Tryz.lays103 s ⟨#[32,32]⟩ W).mono fun e w' ⟨j1,j2⟩=>⟨by rw[j1,show(⟨#[32,32]⟩:ByteArray).data.toList=[32,32]from rfl,hp],j2⟩)
 rcases hA with hA|⟨hA,hB⟩
 ·skip
  have CSF:=zhd (show∀W,Calls Tryz.prog 33 #[.string s,.string ⟨#[58]⟩] W (fun e w'=>e= .returned (.tuple #[.string (trimB s),.bool false])∧w'=W)from fun W=>(Any.strings_CutSuffix Tryz.lays104 s ⟨#[58]⟩ W (by omega)).mono fun e w' ⟨j1,j2⟩=>⟨by rw[j1,show(⟨#[58]⟩:ByteArray).data.toList=[58]from rfl,hA];rfl,j2⟩)
  clear hA hp
  go_enter Tryz.func35,Tryz.ntmps35
  go_wp2_with fail
  refine(CSF.out _).mono ?_
  rintro e w1 ⟨rfl,hw⟩
  rw[hw]
  clear hw w1
  go_wp2_with fail
  refine(CP.out _).mono ?_
  rintro e w1 ⟨rfl,hw⟩
  rw[hw]
  clear hw w1
  go_wp2_with fail
  refine CUT.out.mono ?_
  rintro e w2 ⟨rfl,hB2⟩
  have HB2:=zhd hB2
  clear hB2
  go_wp2_with fail
  refine(FI.out _).mono ?_
  rintro e w3 ⟨rfl,hB3⟩
  have HB3:=zhd (HB2.out.trans (hB3.mono HB2.out.size))
  clear hB3 HB2
  go_wp2_with fail
  refine(OF.out _).mono ?_
  rintro e w5 ⟨rfl,hB5⟩
  have lt3:w3.heap.size<w5.heap.size:=by have:=hB5.size;simp at this;omega
  have i0:w5.cell? ⟨w3.heap.size,0,none⟩=some (.int .i64 op):=by rw[hB5.cell (p:=⟨w3.heap.size,0,none⟩) (by simp),zch (heap_alloc_new _ _)];rfl
  have i1:w5.cell? ⟨w3.heap.size,1,none⟩=some (.int .i64 0):=by rw[hB5.cell (p:=⟨w3.heap.size,1,none⟩) (by simp),zch (heap_alloc_new _ _)];rfl
  have ifr:∀o,w5.frozen? ⟨w3.heap.size,o,none⟩=false:=fun o=>by rw[hB5.frozen (p:=⟨w3.heap.size,o,none⟩) (by simp),zfr (heap_alloc_new _ _)]
  have HB5:=zhd ((HB3.out.alloc HB3.out.size (.cells #[.int .i64 op,.int .i64 0] 43)).trans (hB5.mono (by have:=HB3.out.size;simp;omega)))
  have s3:W.heap.size≤w3.heap.size:=HB3.out.size
  clear hB5
  obtain⟨w6,hw6⟩:∃w6,w6=w5.alloc (.cells #[.string inf.name,.int .i64 inf.operand,.int .i64 inf.i,.int .i64 inf.o,.bool inf.blocks,.bool inf.ends,.bool inf.flow] 148):=⟨_,rfl⟩
  have BE:Below W.heap.size W w6:=by rw[hw6];exact HB5.out.alloc HB5.out.size _
  have HB6:=zh2 (R.ext BE) (RK.ext (b:=b) (v:=v) BE)
  have i0:w6.cell? ⟨w3.heap.size,0,none⟩=some (.int .i64 op):=by rw[hw6];exact(World.cell?_of_block (w:=w5) (Below.heap_alloc _ _ _ lt3)).trans i0
  have i1:w6.cell? ⟨w3.heap.size,1,none⟩=some (.int .i64 0):=by rw[hw6];exact(World.cell?_of_block (w:=w5) (Below.heap_alloc _ _ _ lt3)).trans i1
  have if6:∀o,w6.frozen? ⟨w3.heap.size,o,none⟩=false:=fun o=>by rw[hw6];exact(World.frozen?_of_block (w:=w5) (Below.heap_alloc _ _ _ lt3)).trans (ifr o)
  have lt6:w3.heap.size<w6.heap.size:=by rw[hw6];simp;omega
  have OC:=zhd (OA.out (fun j=>Z j∧j≠w3.heap.size) w6 (fun j hj=>⟨hZ j (by have:=BE.size;omega),by omega⟩) ((R.monoZ (fun j hj hl=>⟨hj,by omega⟩)).ext BE) (G.below BE))
  go_wp2_with fail
  rw[←hw6]
  refine OC.out.mono ?_
  rintro e w7 ⟨v',rfl,H7⟩
  have nro:¬RO v b w3.heap.size:=fun h=>by have:=R.lt h;omega
  have j0:=(H7.out.2.1.cell (p:=⟨w3.heap.size,0,none⟩) lt6 nro).trans i0
  have j1:=(H7.out.2.1.cell (p:=⟨w3.heap.size,1,none⟩) lt6 nro).trans i1
  have jf:∀o,w7.frozen? ⟨w3.heap.size,o,none⟩=false:=fun o=>(H7.out.2.1.frozen (p:=⟨w3.heap.size,o,none⟩) lt6 nro).trans (if6 o)
  have lt7:w3.heap.size<w7.heap.size:=Nat.lt_of_lt_of_le lt6 H7.out.2.1.size
  have nro':¬RO v' b w3.heap.size:=fun h=>by
   rcases H7.out.2.2.1 _ h with h|h
   ·exact nro h
   ·omega
  have HRO:=zh2 nro' (HB6.out.2.trans H7.out.2)
  clear hw6 BE CUT FI OF OC i0 i1 if6 ifr nro nro'
  obtain⟨w8,hw8⟩:∃w8,w8=w7.setCell ⟨w3.heap.size,1,none⟩ (.int .i64 oa):=⟨_,rfl⟩
  have K8:Keeps (fun j=>j=w3.heap.size) w7 w8:=by rw[hw8];exact Keeps.setCell (S:=fun j=>j=w3.heap.size) (p:=⟨w3.heap.size,1,none⟩) (Keeps.refl _ _) (.inl rfl) _
  have R8:=(H7.out.1.far K8 (fun j e h=>HRO.out.1 (e▸h)) (fun j e h=>h.2 e)).monoZ (Z':=Z) (fun j h _=>h.1)
  have RK8:RK b v W v' w8:=⟨HRO.out.2.1.trans K8 (fun j hj e=>by omega),HRO.out.2.2⟩
  have k0:w8.cell? ⟨w3.heap.size,0,none⟩=some (.int .i64 op):=by rw[hw8];go_simp
  have k1:w8.cell? ⟨w3.heap.size,1,none⟩=some (.int .i64 oa):=by rw[hw8];go_simp
  have lt8:w3.heap.size<w8.heap.size:=Nat.lt_of_lt_of_le lt7 K8.size
  have HRX:=zh2 R8 RK8
  go_wp2_with fail
  rw[←hw8]
  clear hw8 K8 R8 RK8 j0 j1 jf
  obtain⟨vc,vk,vn,vj,pl,mb⟩:=v'
  obtain⟨ca,cc,rfl⟩:∃a cap,vc= .slice a st'.code.length cap:=HRX.out.1.code.slice
  have b0:b<w8.heap.size:=zlt HRX.out.1.h
  have c0:=zca HRX.out.1.h 0 rfl
  have f0:∀o,w8.frozen? ⟨b,o,none⟩=false:=fun o=>zfr HRX.out.1.h o
  have NB:=zhd (show∀g,(Value.slice ca st'.code.length cc).ownBlock=some g→g≠b from fun g hg=>(HRX.out.1.sep.c g hg).1)
  have HBD:=zhd (show(st'.code.length+[(⟨op,oa⟩:In)].length)*16≤140737488355328∧st'.code.length+[(⟨op,oa⟩:In)].length≤maxLen∧st'.code.length+[(⟨op,oa⟩:In)].length=st'.code.length+1 from by unfold maxLen;simp;omega)
  go_region_law
   ((refine step_apps (α:=In) (o:=⟨some 105,_,_,_,_,_⟩) elemI (by rfl) (.tmp 102) (.tmp 104) (by rfl) (v:=.slice ca st'.code.length cc) (u:=.slice (some ⟨w8.heap.size,0,none⟩) 1 1) (by rfl) (by rfl) (xs:=st'.code) (ys:=[⟨op,oa⟩]) ((HRX.out.1.code.drew).alloc _) (RowAt.lit (α:=In) (y:=⟨op,oa⟩) (heap_alloc_new _ _)) HBD.out.1 HBD.out.2.1 (st'.code.length+1) HBD.out.2.2 ?_;intro a1 cp w9 hr1 hk1 hf1;have hb1:=(hk1.block b (by simp;omega) (fun e=>NB.out b e rfl)).trans ((Below.heap_alloc w8.drew _ _ b0).trans HRX.out.1.h);have y1:w9.cell? ⟨b,0,none⟩=some (.slice ca st'.code.length cc):=by{rw[zch hb1];rfl};have y3:∀o,w9.frozen? ⟨b,o,none⟩=false:=fun o=>zfr hb1 o;have b1:b<w9.heap.size:=zlt hb1;have FF:=zh3 hr1 hk1 hf1;clear hr1 hk1 hf1 hb1))
  all_goals
   have S:=(HRX.out.1.ext (((Below.refl _ w8).drew).alloc (Nat.le_refl _) (.cells #[.int .i64 op,.int .i64 oa] 43))).setCode FF.out.1 FF.out.2.1 FF.out.2.2
   have HS:=zhd S
   clear S
   go_wp2_with fail
   go_ret
   exact⟨_,rfl,zhd ⟨HS.out.1,HRX.out.2.trans ((RK.ext (((Below.refl _ w8).drew).alloc (Nat.le_refl _) _)).trans HS.out.2)⟩⟩
 ·skip
  have CSF:=zhd (show∀W,Calls Tryz.prog 33 #[.string s,.string ⟨#[58]⟩] W (fun e w'=>e= .returned (.tuple #[.string (trimB s),.bool true])∧w'=W)from fun W=>(Any.strings_CutSuffix Tryz.lays104 s ⟨#[58]⟩ W (by omega)).mono fun e w' ⟨j1,j2⟩=>⟨by rw[j1,show(⟨#[58]⟩:ByteArray).data.toList=[58]from rfl,hA];rfl,j2⟩)
  have htl:(trimB s).size≤65536:=by
   have e1:(trimB s).size=(Lib.trimSuffix s.data.toList [58]).length:=by show(Lib.trimSuffix s.data.toList [58]).toArray.size=_;simp
   rw[e1]
   unfold Lib.trimSuffix
   split
   ·simp;omega
   ·simp;omega
  have LAB:=zhd (show∀W,Calls Tryz.prog 83 #[.string (trimB s)] W (fun e w'=>e= .returned (.bool false)∧w'=W)from fun W=>(label_any (trimB s) W (by omega)).mono fun e w' ⟨j1,j2⟩=>⟨by rw[j1,hB],j2⟩)
  clear htl
  clear hA hB hp
  go_enter Tryz.func35,Tryz.ntmps35
  go_wp2_with fail
  refine(CSF.out _).mono ?_
  rintro e w1 ⟨rfl,hw⟩
  rw[hw]
  clear hw w1
  go_wp2_with fail
  refine(LAB.out _).mono ?_
  rintro e w1 ⟨rfl,hw⟩
  rw[hw]
  clear hw w1
  go_wp2_with fail
  refine(CP.out _).mono ?_
  rintro e w1 ⟨rfl,hw⟩
  rw[hw]
  clear hw w1
  go_wp2_with fail
  refine CUT.out.mono ?_
  rintro e w2 ⟨rfl,hB2⟩
  have HB2:=zhd hB2
  clear hB2
  go_wp2_with fail
  refine(FI.out _).mono ?_
  rintro e w3 ⟨rfl,hB3⟩
  have HB3:=zhd (HB2.out.trans (hB3.mono HB2.out.size))
  clear hB3 HB2
  go_wp2_with fail
  refine(OF.out _).mono ?_
  rintro e w5 ⟨rfl,hB5⟩
  have lt3:w3.heap.size<w5.heap.size:=by have:=hB5.size;simp at this;omega
  have i0:w5.cell? ⟨w3.heap.size,0,none⟩=some (.int .i64 op):=by rw[hB5.cell (p:=⟨w3.heap.size,0,none⟩) (by simp),zch (heap_alloc_new _ _)];rfl
  have i1:w5.cell? ⟨w3.heap.size,1,none⟩=some (.int .i64 0):=by rw[hB5.cell (p:=⟨w3.heap.size,1,none⟩) (by simp),zch (heap_alloc_new _ _)];rfl
  have ifr:∀o,w5.frozen? ⟨w3.heap.size,o,none⟩=false:=fun o=>by rw[hB5.frozen (p:=⟨w3.heap.size,o,none⟩) (by simp),zfr (heap_alloc_new _ _)]
  have HB5:=zhd ((HB3.out.alloc HB3.out.size (.cells #[.int .i64 op,.int .i64 0] 43)).trans (hB5.mono (by have:=HB3.out.size;simp;omega)))
  have s3:W.heap.size≤w3.heap.size:=HB3.out.size
  clear hB5
  obtain⟨w6,hw6⟩:∃w6,w6=w5.alloc (.cells #[.string inf.name,.int .i64 inf.operand,.int .i64 inf.i,.int .i64 inf.o,.bool inf.blocks,.bool inf.ends,.bool inf.flow] 148):=⟨_,rfl⟩
  have BE:Below W.heap.size W w6:=by rw[hw6];exact HB5.out.alloc HB5.out.size _
  have HB6:=zh2 (R.ext BE) (RK.ext (b:=b) (v:=v) BE)
  have i0:w6.cell? ⟨w3.heap.size,0,none⟩=some (.int .i64 op):=by rw[hw6];exact(World.cell?_of_block (w:=w5) (Below.heap_alloc _ _ _ lt3)).trans i0
  have i1:w6.cell? ⟨w3.heap.size,1,none⟩=some (.int .i64 0):=by rw[hw6];exact(World.cell?_of_block (w:=w5) (Below.heap_alloc _ _ _ lt3)).trans i1
  have if6:∀o,w6.frozen? ⟨w3.heap.size,o,none⟩=false:=fun o=>by rw[hw6];exact(World.frozen?_of_block (w:=w5) (Below.heap_alloc _ _ _ lt3)).trans (ifr o)
  have lt6:w3.heap.size<w6.heap.size:=by rw[hw6];simp;omega
  have OC:=zhd (OA.out (fun j=>Z j∧j≠w3.heap.size) w6 (fun j hj=>⟨hZ j (by have:=BE.size;omega),by omega⟩) ((R.monoZ (fun j hj hl=>⟨hj,by omega⟩)).ext BE) (G.below BE))
  go_wp2_with fail
  rw[←hw6]
  refine OC.out.mono ?_
  rintro e w7 ⟨v',rfl,H7⟩
  have nro:¬RO v b w3.heap.size:=fun h=>by have:=R.lt h;omega
  have j0:=(H7.out.2.1.cell (p:=⟨w3.heap.size,0,none⟩) lt6 nro).trans i0
  have j1:=(H7.out.2.1.cell (p:=⟨w3.heap.size,1,none⟩) lt6 nro).trans i1
  have jf:∀o,w7.frozen? ⟨w3.heap.size,o,none⟩=false:=fun o=>(H7.out.2.1.frozen (p:=⟨w3.heap.size,o,none⟩) lt6 nro).trans (if6 o)
  have lt7:w3.heap.size<w7.heap.size:=Nat.lt_of_lt_of_le lt6 H7.out.2.1.size
  have nro':¬RO v' b w3.heap.size:=fun h=>by
   rcases H7.out.2.2.1 _ h with h|h
   ·exact nro h
   ·omega
  have HRO:=zh2 nro' (HB6.out.2.trans H7.out.2)
  clear hw6 BE CUT FI OF OC i0 i1 if6 ifr nro nro'
  obtain⟨w8,hw8⟩:∃w8,w8=w7.setCell ⟨w3.heap.size,1,none⟩ (.int .i64 oa):=⟨_,rfl⟩
  have K8:Keeps (fun j=>j=w3.heap.size) w7 w8:=by rw[hw8];exact Keeps.setCell (S:=fun j=>j=w3.heap.size) (p:=⟨w3.heap.size,1,none⟩) (Keeps.refl _ _) (.inl rfl) _
  have R8:=(H7.out.1.far K8 (fun j e h=>HRO.out.1 (e▸h)) (fun j e h=>h.2 e)).monoZ (Z':=Z) (fun j h _=>h.1)
  have RK8:RK b v W v' w8:=⟨HRO.out.2.1.trans K8 (fun j hj e=>by omega),HRO.out.2.2⟩
  have k0:w8.cell? ⟨w3.heap.size,0,none⟩=some (.int .i64 op):=by rw[hw8];go_simp
  have k1:w8.cell? ⟨w3.heap.size,1,none⟩=some (.int .i64 oa):=by rw[hw8];go_simp
  have lt8:w3.heap.size<w8.heap.size:=Nat.lt_of_lt_of_le lt7 K8.size
  have HRX:=zh2 R8 RK8
  go_wp2_with fail
  rw[←hw8]
  clear hw8 K8 R8 RK8 j0 j1 jf
  obtain⟨vc,vk,vn,vj,pl,mb⟩:=v'
  obtain⟨ca,cc,rfl⟩:∃a cap,vc= .slice a st'.code.length cap:=HRX.out.1.code.slice
  have b0:b<w8.heap.size:=zlt HRX.out.1.h
  have c0:=zca HRX.out.1.h 0 rfl
  have f0:∀o,w8.frozen? ⟨b,o,none⟩=false:=fun o=>zfr HRX.out.1.h o
  have NB:=zhd (show∀g,(Value.slice ca st'.code.length cc).ownBlock=some g→g≠b from fun g hg=>(HRX.out.1.sep.c g hg).1)
  have HBD:=zhd (show(st'.code.length+[(⟨op,oa⟩:In)].length)*16≤140737488355328∧st'.code.length+[(⟨op,oa⟩:In)].length≤maxLen∧st'.code.length+[(⟨op,oa⟩:In)].length=st'.code.length+1 from by unfold maxLen;simp;omega)
  go_region_law
   ((refine step_apps (α:=In) (o:=⟨some 105,_,_,_,_,_⟩) elemI (by rfl) (.tmp 102) (.tmp 104) (by rfl) (v:=.slice ca st'.code.length cc) (u:=.slice (some ⟨w8.heap.size,0,none⟩) 1 1) (by rfl) (by rfl) (xs:=st'.code) (ys:=[⟨op,oa⟩]) ((HRX.out.1.code.drew).alloc _) (RowAt.lit (α:=In) (y:=⟨op,oa⟩) (heap_alloc_new _ _)) HBD.out.1 HBD.out.2.1 (st'.code.length+1) HBD.out.2.2 ?_;intro a1 cp w9 hr1 hk1 hf1;have hb1:=(hk1.block b (by simp;omega) (fun e=>NB.out b e rfl)).trans ((Below.heap_alloc w8.drew _ _ b0).trans HRX.out.1.h);have y1:w9.cell? ⟨b,0,none⟩=some (.slice ca st'.code.length cc):=by{rw[zch hb1];rfl};have y3:∀o,w9.frozen? ⟨b,o,none⟩=false:=fun o=>zfr hb1 o;have b1:b<w9.heap.size:=zlt hb1;have FF:=zh3 hr1 hk1 hf1;clear hr1 hk1 hf1 hb1))
  all_goals
   have S:=(HRX.out.1.ext (((Below.refl _ w8).drew).alloc (Nat.le_refl _) (.cells #[.int .i64 op,.int .i64 oa] 43))).setCode FF.out.1 FF.out.2.1 FF.out.2.2
   have HS:=zhd S
   clear S
   go_wp2_with fail
   go_ret
   exact⟨_,rfl,zhd ⟨HS.out.1,HRX.out.2.trans ((RK.ext (((Below.refl _ w8).drew).alloc (Nat.le_refl _) _)).trans HS.out.2)⟩⟩
theorem operL_code (kind line:Int)(s:ByteArray)(st:RSt):(operL kind line s st).2.2.code=st.code:=by
 unfold operL
 split
 ·split<;>rfl
 ·split
  ·split<;>rfl
  ·split
   ·split<;>rfl
   ·split
    ·rfl
    ·dsimp only
     split<;>rfl
theorem line_any {N:Nat}
  {Z:Nat→Prop}(b:Nat)(v:RV)(st:RSt)(n:Int)(s:ByteArray)(W:World)(R:RX Z W b v st)(hs:s.size≤65536)
  (G:Gl Tryz.prog N W)(hZ:∀j,W.heap.size≤j→Z j)(m:Nat)(hm:v.mb=some m)(h1:st.consts.length≤65536)(h2:st.names.length≤65536)(h3:st.jumps.length≤65536)(h4:st.code.length≤65536)(hp:0≤st.places∧st.places≤100)(r:Int×RSt)(hr:lineL n s st=r):
  Calls Tryz.prog 35 #[.pointer (some ⟨b,0,none⟩),.int .i64 n,.string s] W (LPost Z W b v r)
  :=by
 unfold lineL at hr
 by_cases hl:isLab s=true
 ·rw[if_pos hl]at hr
  unfold isLab at hl
  rw[Bool.and_eq_true]at hl
  exact line_label b v st n s W R hs m hm hl.1 hl.2 _ hr
 ·rw[if_neg hl]at hr
  have hA:Lib.hasSuffix s.data.toList [58]=false∨(Lib.hasSuffix s.data.toList [58]=true∧labL (trimB s).data.toList=false):=by
   unfold isLab at hl
   cases e1:Lib.hasSuffix s.data.toList [58]with
   |false=>exact .inl rfl
   |true=>
    cases e2:labL (trimB s).data.toList with
    |false=>exact .inr ⟨rfl,rfl⟩
    |true=>rw[e1,e2]at hl;exact absurd rfl hl
  cases hpx:Lib.hasPrefix s.data.toList [32,32]with
  |false=>
   rw[if_pos hpx]at hr
   exact line_form b v st n s W R hs hA hpx _ hr.symm
  |true=>
   rw[if_neg (by rw[hpx];exact Bool.noConfusion)]at hr
   cases hf:findL (cutN s)with
   |none=>
    rw[hf]at hr
    exact line_op b v st n s W R hs G hA hpx hf _ hr.symm
   |some op=>
    rw[hf]at hr
    dsimp only at hr
    generalize ho:(ofL op).1=inf at hr
    cases hm2:cutM s with
    |false=>
     rw[hm2]at hr
     cases hi:(inf.operand !=0)with
     |false=>
      rw[hi,if_neg (by decide),if_neg (by decide)]at hr
      exact line_none b v st n s W R hs G hA hpx op inf hf ho hm2 hi h4 _ hr.symm
     |true=>
      rw[hi,if_pos (by decide)]at hr
      exact line_more b v st n s W R hs G hA hpx op inf hf ho false true hm2 hi (.inr ⟨rfl,rfl⟩) _ hr.symm
    |true=>
     rw[hm2]at hr
     cases hi:(inf.operand !=0)with
     |false=>
      rw[hi,if_pos (by decide)]at hr
      exact line_more b v st n s W R hs G hA hpx op inf hf ho true false hm2 hi (.inl ⟨rfl,rfl⟩) _ hr.symm
     |true=>
      rw[hi,if_neg (by decide),if_pos rfl]at hr
      have hcs:(cutR s).size≤65536:=by have:=cut_len s;omega
      have hcode:=operL_code inf.operand n (cutR s) st
      have OA:∀Z1 w6,(∀j,w6.heap.size≤j→Z1 j)→RX Z1 w6 b v st→Gl Tryz.prog N w6→Calls Tryz.prog 87 #[.pointer (some ⟨b,0,none⟩),.int .i64 inf.operand,.int .i64 n,.string (cutR s)] w6 (OPost Z1 w6 b v (operL inf.operand n (cutR s) st)):=
       fun Z1 w6 hZ1 R6 G6=>oper_any b v st n (cutR s) w6 R6 G6 hcs hZ1 inf.operand h1 h2 h3 hp
      generalize operL inf.operand n (cutR s) st=q at hr OA hcode
      obtain⟨oa,er,st'⟩:=q
      dsimp only at hr hcode
      cases he:(er !=0)with
      |true=>
       rw[if_pos (by simpa using he)]at hr
       exact line_bad b v st n s W R hs G hA hpx op inf hf ho hm2 hi oa er st' hZ OA he _ hr.symm
      |false=>
       have he0:er=0:=by simpa using he
       subst he0
       rw[if_neg (by simp)]at hr
       exact line_good b v st n s W R hs G hA hpx op inf hf ho hm2 hi oa st' hZ OA (by rw[hcode];exact h4) _ hr.symm
end Go.Proofs.YtakljipkaoahnaaGreatDoor
