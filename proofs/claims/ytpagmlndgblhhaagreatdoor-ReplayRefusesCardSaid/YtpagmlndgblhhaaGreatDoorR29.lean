/- Parts of the proof: what the functions and the plain laws give that later parts lean on. Conditions: none beyond those that each theorem names. -/
import Derived.Test.YtpagmlndgblhhaaGreatDoorR28
set_option maxRecDepth 100000
set_option maxHeartbeats 8000000
namespace Go.Proofs.YtpagmlndgblhhaaGreatDoor
open Go.RowKit Go.Own Go.Own.MapTy Go.Va Go.Sort
open Go.Own.Cells (sz enc)
theorem yjn {N:Nat}(s:ByteArray)(w:World)(hs:s.size≤4294967280)(G:Gl Tryz.prog N w)(h0:Lib.hasPrefix (s.data.toList.drop 0) [110,105,108]=false)(h1:yd4 s.data.toList 0 34=false)(h2:yd4 s.data.toList 0 91=false)(x:Val)(hv:yfA s.data.toList 0= .ok x s.size)(hcl:checkL x=0):
  Calls Tryz.prog 128 #[.string s] w (ynH w (x,0)):=by
 have hn:=G.n;have T0:TX ((w.alloc (.cells #[.int .i64 0,.int .i64 0,.string ⟨#[]⟩,.slice none 0 0] 38)).alloc (.cells #[.string s,.int .i64 0,.bool false] 246)) (w.heap.size+1) s 0 false:=yar;have VA:=zhd (show Calls Tryz.prog 151 #[.pointer (some ⟨w.heap.size+1,0,none⟩),.int .i64 0] _ _ from yk8 (w.heap.size+1) s 0 0 _ T0 hs (znq _) ((G.alloc _).alloc _) (by omega) h0 h1 h2 _ hv);have hwf:=yjv hv;clear G T0 h0 h1 h2 hv;go_enter Tryz.func128,Tryz.ntmps128;go_wp2_with fail;refine VA.o.mono ?_;rintro e w2 ⟨c,k2,hk2,K2,H2⟩;have q:∀o,w2.cell? ⟨w.heap.size,o,none⟩=(#[.int .i64 0,.int .i64 0,.string ⟨#[]⟩,.slice none 0 0]:Array Value)[o]? :=fun o=>by
  rw[K2.cell (p:=⟨w.heap.size,o,none⟩) (by simp;omega) (show¬w.heap.size=w.heap.size+1 by omega),zch yaE]
 have qf:∀o,w2.frozen? ⟨w.heap.size,o,none⟩=false:=fun o=>by
  rw[K2.frozen (p:=⟨w.heap.size,o,none⟩) (by simp;omega) (show¬w.heap.size=w.heap.size+1 by omega),zfr yaE]
 have q0:=q 0;have q1:=q 1;have q2:=q 2;have q3:=q 3;simp only[zmc,zma,zmb]at q0 q1 q2 q3;have sz2:=K2.size;simp at sz2;have sz3:w.heap.size<w2.heap.size:=by omega
 have sz4:w.heap.size+1<w2.heap.size:=by omega
 have HK:=zhd (show Below w.heap.size w w2 from(((zal).alloc (by simp) _).trans (K2.below (B:=w.heap.size) (by simp;omega) (fun k hk e=>by omega))));clear q VA K2;obtain⟨rfl,hks,hC,T2⟩:=H2;have c0:=T2.c0;have c1:=T2.c1;have c2:=T2.c2;have hkl:¬k2<s.size:=by omega
 clear hks;have e1:¬(k2:Int)<s.size:=by omega
 have e2:decide (k2<s.size)=false:=by rw[znz];exact hkl
 have hC1:=(hC.mono (G:=fun j=>w.heap.size<j) (fun j h _=>by simp at h;omega)).keep (S:=fun _=>False) ((Keeps.refl _ _).alloc (.cells #[.int .i64 c.kind,.int .i64 c.n,.string c.s,.slice c.la c.ln c.lc] 38)) (fun _ _ f=>f);have CC:=zhd (yaB x c.kind c.n c.s c.la c.ln c.lc _ _ hC1 hwf _ rfl);rw[hcl]at CC;have HX:=zhd hC1;clear T2 hC hwf hC1 hcl;go_wp2_with fail;refine CC.o.mono ?_;rintro e w3 ⟨rfl,hB3⟩;have p0:w3.cell? ⟨w2.heap.size,0,none⟩=some (.int .i64 c.kind):=by rw[hB3.cell (p:=⟨w2.heap.size,0,none⟩) (by simp),zch (znb _ _)];rfl
 have p1:w3.cell? ⟨w2.heap.size,1,none⟩=some (.int .i64 c.n):=by rw[hB3.cell (p:=⟨w2.heap.size,1,none⟩) (by simp),zch (znb _ _)];rfl
 have p2:w3.cell? ⟨w2.heap.size,2,none⟩=some (.string c.s):=by rw[hB3.cell (p:=⟨w2.heap.size,2,none⟩) (by simp),zch (znb _ _)];rfl
 have p3:w3.cell? ⟨w2.heap.size,3,none⟩=some (.slice c.la c.ln c.lc):=by rw[hB3.cell (p:=⟨w2.heap.size,3,none⟩) (by simp),zch (znb _ _)];rfl
 have q0':w3.cell? ⟨w.heap.size,0,none⟩=some (.int .i64 0):=by rw[hB3.cell (p:=⟨w.heap.size,0,none⟩) (by simp;omega)];exact(znt (w:=w2) (zne _ _ _ sz3)).trans q0
 have q1':w3.cell? ⟨w.heap.size,1,none⟩=some (.int .i64 0):=by rw[hB3.cell (p:=⟨w.heap.size,1,none⟩) (by simp;omega)];exact(znt (w:=w2) (zne _ _ _ sz3)).trans q1
 have q2':w3.cell? ⟨w.heap.size,2,none⟩=some (.string ⟨#[]⟩):=by rw[hB3.cell (p:=⟨w.heap.size,2,none⟩) (by simp;omega)];exact(znt (w:=w2) (zne _ _ _ sz3)).trans q2
 have q3':w3.cell? ⟨w.heap.size,3,none⟩=some (.slice none 0 0):=by rw[hB3.cell (p:=⟨w.heap.size,3,none⟩) (by simp;omega)];exact(znt (w:=w2) (zne _ _ _ sz3)).trans q3
 have qf':∀o,w3.frozen? ⟨w.heap.size,o,none⟩=false:=fun o=>by rw[hB3.frozen (p:=⟨w.heap.size,o,none⟩) (by simp;omega)];exact(znu (w:=w2) (zne _ _ _ sz3)).trans (qf o)
 have sz5:=hB3.size;simp at sz5;have sz6:w.heap.size<w3.heap.size:=by omega
 have sz7:w2.heap.size<w3.heap.size:=by omega
 have HB:=zhd (show Below w.heap.size w w3 from(HK.o.alloc (by omega) _).trans (hB3.mono (by simp;omega)));have HX3:=zhd (HX.o.keep (zkb (S:=fun _=>False) hB3) (fun _ _ f=>f));clear hB3 c0 c1 c2 q0 q1 q2 q3 qf CC HX;go_wp2_with fail;exact zng (v:=.tuple #[.agg #[.int .i64 c.kind,.int .i64 c.n,.string c.s,.slice c.la c.ln c.lc],.int .i64 0]) (by simp only[results,Tryz.results128];go_simp) rfl ⟨c,rfl,(HX3.o.keep (yob w.heap.size w3 _ _ _ _) (fun j h e=>by omega)).mono (fun j h _=>by omega),yhS HB.o _ _ _ _⟩
theorem ykS {Z:Nat→Prop}(b:Nat)(v:RV)(st:RSt)(line:Int)(s:ByteArray)(W:World)(R:RX Z W b v st)(hZ:∀j,W.heap.size≤j→Z j)(hl:st.consts.length≤65536)(x:Val)(PA:Calls Tryz.prog 128 #[.string s] W (ynH W (x,0)))(i0:Nat)(l':List Val)(hq:yfh x st.consts=(i0,l')):
  Calls Tryz.prog 93 #[.pointer (some ⟨b,0,none⟩),.int .i64 1,.int .i64 line,.string s] W (ynI Z W b v ((i0:Int),0,{st with consts:=l'})):=by
 have PA:=zhd PA;have HR:=zhd R;clear R;go_enter Tryz.func93,Tryz.ntmps93;go_wp2_with fail;refine PA.o.mono ?_;rintro e w1 ⟨⟨ck,cn,cs,la,ln,lc⟩,rfl,hC,hB⟩;have HC:=zh2 hC hB;clear hC hB PA;have BE:Below W.heap.size W (w1.alloc (.cells #[.int .i64 ck,.int .i64 cn,.string cs,.slice la ln lc] 38)):=HC.o.2.alloc HC.o.2.size _;have RV:=zhd (yic b v st x ck cn cs la ln lc _ (HR.o.ext BE) ((HC.o.1.mono (G:=fun j=>¬Go.Va.RO v b j∧Z j) (fun j h _=>⟨fun e=>by have:=HR.o.lt e;omega,hZ j h⟩)).keep (S:=fun _=>False) ((Keeps.refl _ _).alloc _) (fun _ _ f=>f)) (by omega) _ _ hq);have HB:=zhd BE;clear BE hq;go_wp2_with fail;refine RV.o.mono ?_;rintro e w2 ⟨v',rfl,H2⟩;go_wp2_with fail;exact zng (v:=.tuple #[.int .i64 i0,.int .i64 0]) (by simp only[results,Tryz.results93];go_simp) rfl ⟨v',rfl,zhd ⟨H2.o.1,(RK.ext HB.o).trans H2.o.2⟩⟩
theorem yk2 {N:Nat}
  {Z:Nat→Prop}(b:Nat)(v:RV)(st:RSt)(n:Int)(s:ByteArray)(W:World)(R:RX Z W b v st)(hs:s.size≤65536)
  (G:Gl Tryz.prog N W)(hA:Lib.hasSuffix s.data.toList [58]=false)(hp:Lib.hasPrefix s.data.toList [32,32]=true)(op:Nat)(inf:Inf)(hf:yet (yf8 s)=some op)(ho:(ofL op).1=inf)(hm:ykr s=false)(hi:(inf.operand !=0)=false)(hc:st.code.length≤65536)(r:Int×RSt)(hr:r=(0,{st with code:=st.code++[⟨op,0⟩]})):
  Calls Tryz.prog 47 #[.pointer (some ⟨b,0,none⟩),.int .i64 n,.string s] W (ymJ Z W b v r)
  :=by
 subst hr;have hcl:=ygQ s;have CUT:=zhd (show Calls Tryz.prog 90 #[.string ⟨(Lib.trimPrefix s.data.toList [32,32]).toArray⟩,.string ⟨#[32]⟩] W (fun e w'=>e= .returned (.tuple #[.string (yf8 s),.string (ycL s),.bool (ykr s)])∧Below W.heap.size W w')from by
  obtain⟨m,hm⟩:=G.m;have hsz:(⟨(Lib.trimPrefix s.data.toList [32,32]).toArray⟩:ByteArray).size<4294967281:=by
   have e1:(⟨(Lib.trimPrefix s.data.toList [32,32]).toArray⟩:ByteArray).size=(Lib.trimPrefix s.data.toList [32,32]).length:=by show(Lib.trimPrefix s.data.toList [32,32]).toArray.size=_;simp
   rw[e1];omega
  exact(Any.strings_Cut Tryz.lays145 ⟨(Lib.trimPrefix s.data.toList [32,32]).toArray⟩ ⟨#[32]⟩ m W hsz hm).mono fun e w' ⟨j1,n,j2⟩=>⟨by rw[j1];unfold yf8 ycL ykr;simp,by rw[j2];exact⟨rfl,rfl,rfl,znc _,fun _ _=>rfl⟩⟩)
 rw[hm]at CUT;have FI:=zhd (show∀w,Calls Tryz.prog 91 #[.string (yf8 s)] w (fun e w'=>e= .returned (.tuple #[.int .i64 op,.bool true])∧Below w.heap.size w w')from fun w=>(yjT (yf8 s) w).mono fun e w' ⟨j1,j2⟩=>⟨by rw[j1,hf];rfl,j2⟩);have OF:=zhd (show∀w,Calls Tryz.prog 92 #[.int .i64 op] w (fun e w'=>e= .returned (.tuple #[.agg #[.string inf.name,.int .i64 inf.operand,.int .i64 inf.i,.int .i64 inf.o,.bool inf.blocks,.bool inf.ends,.bool inf.flow],.bool (ofL op).2])∧Below w.heap.size w w')from fun w=>(yfz op w).mono fun e w' ⟨j1,j2⟩=>⟨by rw[j1,ho];rfl,j2⟩);generalize(ofL op).2=ob at*;clear hf G hcl ho hm;have CP:=zhd (show∀W,Calls Tryz.prog 89 #[.string s,.string ⟨#[32,32]⟩] W (fun e w'=>e= .returned (.tuple #[.string ⟨(Lib.trimPrefix s.data.toList [32,32]).toArray⟩,.bool true])∧w'=W)from fun W=>(Any.strings_CutPrefix Tryz.lays103 s ⟨#[32,32]⟩ W).mono fun e w' ⟨j1,j2⟩=>⟨by rw[j1,show(⟨#[32,32]⟩:ByteArray).data.toList=[32,32]from rfl,hp],j2⟩)
 have CSF:=zhd (show∀W,Calls Tryz.prog 45 #[.string s,.string ⟨#[58]⟩] W (fun e w'=>e= .returned (.tuple #[.string (yi1 s),.bool false])∧w'=W)from fun W=>(Any.strings_CutSuffix Tryz.lays104 s ⟨#[58]⟩ W (by omega)).mono fun e w' ⟨j1,j2⟩=>⟨by rw[j1,show(⟨#[58]⟩:ByteArray).data.toList=[58]from rfl,hA];rfl,j2⟩);clear hA hp;go_enter Tryz.func47,Tryz.ntmps47;go_wp2_with fail;refine(CSF.o _).mono ?_;rintro e w1 ⟨rfl,hw⟩;rw[hw];clear hw w1;go_wp2_with fail;refine(CP.o _).mono ?_;rintro e w1 ⟨rfl,hw⟩;rw[hw];clear hw w1;go_wp2_with fail;refine CUT.o.mono ?_;rintro e w2 ⟨rfl,hB2⟩;have HB2:=zhd hB2;clear hB2;go_wp2_with fail;refine(FI.o _).mono ?_;rintro e w3 ⟨rfl,hB3⟩;have HB3:=zhd (HB2.o.trans (hB3.mono HB2.o.size));clear hB3 HB2;go_wp2_with fail;refine(OF.o _).mono ?_;rintro e w5 ⟨rfl,hB5⟩;have lt3:w3.heap.size<w5.heap.size:=by have:=hB5.size;simp at this;omega
 have i0:w5.cell? ⟨w3.heap.size,0,none⟩=some (.int .i64 op):=by rw[hB5.cell (p:=⟨w3.heap.size,0,none⟩) (by simp),zch (znb _ _)];rfl
 have i1:w5.cell? ⟨w3.heap.size,1,none⟩=some (.int .i64 0):=by rw[hB5.cell (p:=⟨w3.heap.size,1,none⟩) (by simp),zch (znb _ _)];rfl
 have ifr:∀o,w5.frozen? ⟨w3.heap.size,o,none⟩=false:=fun o=>by rw[hB5.frozen (p:=⟨w3.heap.size,o,none⟩) (by simp),zfr (znb _ _)]
 have HB5:=zhd ((HB3.o.alloc HB3.o.size (.cells #[.int .i64 op,.int .i64 0] 106)).trans (hB5.mono (by have:=HB3.o.size;simp;omega)));have s3:W.heap.size≤w3.heap.size:=HB3.o.size;clear hB5;obtain⟨w6,hw6⟩:∃w6,w6=w5.alloc (.cells #[.string inf.name,.int .i64 inf.operand,.int .i64 inf.i,.int .i64 inf.o,.bool inf.blocks,.bool inf.ends,.bool inf.flow] 169):=⟨_,rfl⟩;have BE:Below W.heap.size W w6:=by rw[hw6];exact HB5.o.alloc HB5.o.size _
 have HRX:=zh2 (R.ext BE) (RK.ext (b:=b) (v:=v) BE);go_wp2_with fail;rw[←hw6];have i0:w6.cell? ⟨w3.heap.size,0,none⟩=some (.int .i64 op):=by rw[hw6];exact(znt (w:=w5) (zne _ _ _ lt3)).trans i0
 have i1:w6.cell? ⟨w3.heap.size,1,none⟩=some (.int .i64 0):=by rw[hw6];exact(znt (w:=w5) (zne _ _ _ lt3)).trans i1
 have lt6:w3.heap.size<w6.heap.size:=by rw[hw6];simp;omega
 clear hw6 BE CUT FI OF;obtain⟨vc,vk,vn,vj,pl,mb⟩:=v;obtain⟨ca,cc,rfl⟩:∃a cap,vc= .slice a st.code.length cap:=HRX.o.1.code.slice;have b0:b<w6.heap.size:=zlt HRX.o.1.h;have c0:=zca HRX.o.1.h 0 rfl;have f0:∀o,w6.frozen? ⟨b,o,none⟩=false:=fun o=>zfr HRX.o.1.h o;have NB:=zhd (show∀g,(Value.slice ca st.code.length cc).ownBlock=some g→g≠b from fun g hg=>(HRX.o.1.sep.c g hg).1);have HBD:=zhd (show(st.code.length+[(⟨op,0⟩:In)].length)*16≤140737488355328∧st.code.length+[(⟨op,0⟩:In)].length≤maxLen∧st.code.length+[(⟨op,0⟩:In)].length=st.code.length+1 from by unfold maxLen;simp;omega);go_region_law
  ((refine yaA (α:=In) (o:=⟨some 105,_,_,_,_,_⟩) ymx (by rfl) (.tmp 102) (.tmp 104) (by rfl) (v:=.slice ca st.code.length cc) (u:=.slice (some ⟨w6.heap.size,0,none⟩) 1 1) (by rfl) (by rfl) (xs:=st.code) (ys:=[⟨op,0⟩]) ((HRX.o.1.code.drew).alloc _) (RowAt.lit (α:=In) (y:=⟨op,0⟩) (znb _ _)) HBD.o.1 HBD.o.2.1 (st.code.length+1) HBD.o.2.2 ?_;intro a1 cp w9 hr1 hk1 hf1;have hb1:=(hk1.block b (by simp;omega) (fun e=>NB.o b e rfl)).trans ((zne w6.drew _ _ b0).trans HRX.o.1.h);have y1:w9.cell? ⟨b,0,none⟩=some (.slice ca st.code.length cc):=by{rw[zch hb1];rfl};have y3:∀o,w9.frozen? ⟨b,o,none⟩=false:=fun o=>zfr hb1 o;have b1:b<w9.heap.size:=zlt hb1;have FF:=zh3 hr1 hk1 hf1;clear hr1 hk1 hf1 hb1))
 all_goals
  have S:=(HRX.o.1.ext (((znv _ w6).drew).alloc (znc _) (.cells #[.int .i64 op,.int .i64 0] 106))).setCode FF.o.1 FF.o.2.1 FF.o.2.2;have HS:=zhd S;clear S;go_wp2_with fail;go_ret;exact⟨_,rfl,zhd ⟨HS.o.1,HRX.o.2.trans ((RK.ext (((znv _ w6).drew).alloc (znc _) _)).trans HS.o.2)⟩⟩
theorem yk3 {N:Nat}
  {Z:Nat→Prop}(b:Nat)(v:RV)(st:RSt)(n:Int)(s:ByteArray)(W:World)(R:RX Z W b v st)(hs:s.size≤65536)
  (G:Gl Tryz.prog N W)(hA:Lib.hasSuffix s.data.toList [58]=false)(hp:Lib.hasPrefix s.data.toList [32,32]=true)(op:Nat)(inf:Inf)(hf:yet (yf8 s)=some op)(ho:(ofL op).1=inf)(hm:ykr s=true)(hi:(inf.operand !=0)=true)(oa:Int)(st':RSt)
  (hZ:∀j,W.heap.size≤j→Z j)(OA:∀Z1 w6,(∀j,w6.heap.size≤j→Z1 j)→RX Z1 w6 b v st→Gl Tryz.prog N w6→Calls Tryz.prog 93 #[.pointer (some ⟨b,0,none⟩),.int .i64 inf.operand,.int .i64 n,.string (ycL s)] w6 (ynI Z1 w6 b v (oa,0,st')))(hc:st'.code.length≤65536)(r:Int×RSt)(hr:r=(0,{st' with code:=st'.code++[⟨op,oa⟩]})):
  Calls Tryz.prog 47 #[.pointer (some ⟨b,0,none⟩),.int .i64 n,.string s] W (ymJ Z W b v r)
  :=by
 subst hr;have hcl:=ygQ s;have CUT:=zhd (show Calls Tryz.prog 90 #[.string ⟨(Lib.trimPrefix s.data.toList [32,32]).toArray⟩,.string ⟨#[32]⟩] W (fun e w'=>e= .returned (.tuple #[.string (yf8 s),.string (ycL s),.bool (ykr s)])∧Below W.heap.size W w')from by
  obtain⟨m,hm⟩:=G.m;have hsz:(⟨(Lib.trimPrefix s.data.toList [32,32]).toArray⟩:ByteArray).size<4294967281:=by
   have e1:(⟨(Lib.trimPrefix s.data.toList [32,32]).toArray⟩:ByteArray).size=(Lib.trimPrefix s.data.toList [32,32]).length:=by show(Lib.trimPrefix s.data.toList [32,32]).toArray.size=_;simp
   rw[e1];omega
  exact(Any.strings_Cut Tryz.lays145 ⟨(Lib.trimPrefix s.data.toList [32,32]).toArray⟩ ⟨#[32]⟩ m W hsz hm).mono fun e w' ⟨j1,n,j2⟩=>⟨by rw[j1];unfold yf8 ycL ykr;simp,by rw[j2];exact⟨rfl,rfl,rfl,znc _,fun _ _=>rfl⟩⟩)
 rw[hm]at CUT;have FI:=zhd (show∀w,Calls Tryz.prog 91 #[.string (yf8 s)] w (fun e w'=>e= .returned (.tuple #[.int .i64 op,.bool true])∧Below w.heap.size w w')from fun w=>(yjT (yf8 s) w).mono fun e w' ⟨j1,j2⟩=>⟨by rw[j1,hf];rfl,j2⟩);have OF:=zhd (show∀w,Calls Tryz.prog 92 #[.int .i64 op] w (fun e w'=>e= .returned (.tuple #[.agg #[.string inf.name,.int .i64 inf.operand,.int .i64 inf.i,.int .i64 inf.o,.bool inf.blocks,.bool inf.ends,.bool inf.flow],.bool (ofL op).2])∧Below w.heap.size w w')from fun w=>(yfz op w).mono fun e w' ⟨j1,j2⟩=>⟨by rw[j1,ho];rfl,j2⟩);generalize(ofL op).2=ob at*;have OA:=zhd OA;clear hf hcl ho hm;have CP:=zhd (show∀W,Calls Tryz.prog 89 #[.string s,.string ⟨#[32,32]⟩] W (fun e w'=>e= .returned (.tuple #[.string ⟨(Lib.trimPrefix s.data.toList [32,32]).toArray⟩,.bool true])∧w'=W)from fun W=>(Any.strings_CutPrefix Tryz.lays103 s ⟨#[32,32]⟩ W).mono fun e w' ⟨j1,j2⟩=>⟨by rw[j1,show(⟨#[32,32]⟩:ByteArray).data.toList=[32,32]from rfl,hp],j2⟩)
 have CSF:=zhd (show∀W,Calls Tryz.prog 45 #[.string s,.string ⟨#[58]⟩] W (fun e w'=>e= .returned (.tuple #[.string (yi1 s),.bool false])∧w'=W)from fun W=>(Any.strings_CutSuffix Tryz.lays104 s ⟨#[58]⟩ W (by omega)).mono fun e w' ⟨j1,j2⟩=>⟨by rw[j1,show(⟨#[58]⟩:ByteArray).data.toList=[58]from rfl,hA];rfl,j2⟩);clear hA hp;go_enter Tryz.func47,Tryz.ntmps47;go_wp2_with fail;refine(CSF.o _).mono ?_;rintro e w1 ⟨rfl,hw⟩;rw[hw];clear hw w1;go_wp2_with fail;refine(CP.o _).mono ?_;rintro e w1 ⟨rfl,hw⟩;rw[hw];clear hw w1;go_wp2_with fail;refine CUT.o.mono ?_;rintro e w2 ⟨rfl,hB2⟩;have HB2:=zhd hB2;clear hB2;go_wp2_with fail;refine(FI.o _).mono ?_;rintro e w3 ⟨rfl,hB3⟩;have HB3:=zhd (HB2.o.trans (hB3.mono HB2.o.size));clear hB3 HB2;go_wp2_with fail;refine(OF.o _).mono ?_;rintro e w5 ⟨rfl,hB5⟩;have lt3:w3.heap.size<w5.heap.size:=by have:=hB5.size;simp at this;omega
 have i0:w5.cell? ⟨w3.heap.size,0,none⟩=some (.int .i64 op):=by rw[hB5.cell (p:=⟨w3.heap.size,0,none⟩) (by simp),zch (znb _ _)];rfl
 have i1:w5.cell? ⟨w3.heap.size,1,none⟩=some (.int .i64 0):=by rw[hB5.cell (p:=⟨w3.heap.size,1,none⟩) (by simp),zch (znb _ _)];rfl
 have ifr:∀o,w5.frozen? ⟨w3.heap.size,o,none⟩=false:=fun o=>by rw[hB5.frozen (p:=⟨w3.heap.size,o,none⟩) (by simp),zfr (znb _ _)]
 have HB5:=zhd ((HB3.o.alloc HB3.o.size (.cells #[.int .i64 op,.int .i64 0] 106)).trans (hB5.mono (by have:=HB3.o.size;simp;omega)));have s3:W.heap.size≤w3.heap.size:=HB3.o.size;clear hB5;obtain⟨w6,hw6⟩:∃w6,w6=w5.alloc (.cells #[.string inf.name,.int .i64 inf.operand,.int .i64 inf.i,.int .i64 inf.o,.bool inf.blocks,.bool inf.ends,.bool inf.flow] 169):=⟨_,rfl⟩;have BE:Below W.heap.size W w6:=by rw[hw6];exact HB5.o.alloc HB5.o.size _
 have HB6:=zh2 (R.ext BE) (RK.ext (b:=b) (v:=v) BE);have i0:w6.cell? ⟨w3.heap.size,0,none⟩=some (.int .i64 op):=by rw[hw6];exact(znt (w:=w5) (zne _ _ _ lt3)).trans i0
 have i1:w6.cell? ⟨w3.heap.size,1,none⟩=some (.int .i64 0):=by rw[hw6];exact(znt (w:=w5) (zne _ _ _ lt3)).trans i1
 have if6:∀o,w6.frozen? ⟨w3.heap.size,o,none⟩=false:=fun o=>by rw[hw6];exact(znu (w:=w5) (zne _ _ _ lt3)).trans (ifr o)
 have lt6:w3.heap.size<w6.heap.size:=by rw[hw6];simp;omega
 have OC:=zhd (OA.o (fun j=>Z j∧j≠w3.heap.size) w6 (fun j hj=>⟨hZ j (by have:=BE.size;omega),by omega⟩) ((R.monoZ (fun j hj hl=>⟨hj,by omega⟩)).ext BE) (G.below BE));go_wp2_with fail;rw[←hw6];refine OC.o.mono ?_;rintro e w7 ⟨v',rfl,H7⟩;have nro:¬Go.Va.RO v b w3.heap.size:=fun h=>by have:=R.lt h;omega
 have j0:=(H7.o.2.1.cell (p:=⟨w3.heap.size,0,none⟩) lt6 nro).trans i0;have j1:=(H7.o.2.1.cell (p:=⟨w3.heap.size,1,none⟩) lt6 nro).trans i1;have jf:∀o,w7.frozen? ⟨w3.heap.size,o,none⟩=false:=fun o=>(H7.o.2.1.frozen (p:=⟨w3.heap.size,o,none⟩) lt6 nro).trans (if6 o);have lt7:w3.heap.size<w7.heap.size:=znj lt6 H7.o.2.1.size;have nro':¬Go.Va.RO v' b w3.heap.size:=fun h=>by
  rcases H7.o.2.2.1 _ h with h|h
  ·exact nro h
  ·omega
 have HRO:=zh2 nro' (HB6.o.2.trans H7.o.2);clear hw6 BE CUT FI OF OC i0 i1 if6 ifr nro nro';obtain⟨w8,hw8⟩:∃w8,w8=w7.setCell ⟨w3.heap.size,1,none⟩ (.int .i64 oa):=⟨_,rfl⟩;have K8:Keeps (fun j=>j=w3.heap.size) w7 w8:=by rw[hw8];exact Keeps.setCell (S:=fun j=>j=w3.heap.size) (p:=⟨w3.heap.size,1,none⟩) (Keeps.refl _ _) (.inl rfl) _
 have R8:=(H7.o.1.far K8 (fun j e h=>HRO.o.1 (e▸h)) (fun j e h=>h.2 e)).monoZ (Z':=Z) (fun j h _=>h.1);have RK8:RK b v W v' w8:=⟨HRO.o.2.1.trans K8 (fun j hj e=>by omega),HRO.o.2.2⟩;have k0:w8.cell? ⟨w3.heap.size,0,none⟩=some (.int .i64 op):=by rw[hw8];go_simp
 have k1:w8.cell? ⟨w3.heap.size,1,none⟩=some (.int .i64 oa):=by rw[hw8];go_simp
 have lt8:w3.heap.size<w8.heap.size:=znj lt7 K8.size;have HRX:=zh2 R8 RK8;go_wp2_with fail;rw[←hw8];clear hw8 K8 R8 RK8 j0 j1 jf;obtain⟨vc,vk,vn,vj,pl,mb⟩:=v';obtain⟨ca,cc,rfl⟩:∃a cap,vc= .slice a st'.code.length cap:=HRX.o.1.code.slice;have b0:b<w8.heap.size:=zlt HRX.o.1.h;have c0:=zca HRX.o.1.h 0 rfl;have f0:∀o,w8.frozen? ⟨b,o,none⟩=false:=fun o=>zfr HRX.o.1.h o;have NB:=zhd (show∀g,(Value.slice ca st'.code.length cc).ownBlock=some g→g≠b from fun g hg=>(HRX.o.1.sep.c g hg).1);have HBD:=zhd (show(st'.code.length+[(⟨op,oa⟩:In)].length)*16≤140737488355328∧st'.code.length+[(⟨op,oa⟩:In)].length≤maxLen∧st'.code.length+[(⟨op,oa⟩:In)].length=st'.code.length+1 from by unfold maxLen;simp;omega);go_region_law
  ((refine yaA (α:=In) (o:=⟨some 105,_,_,_,_,_⟩) ymx (by rfl) (.tmp 102) (.tmp 104) (by rfl) (v:=.slice ca st'.code.length cc) (u:=.slice (some ⟨w8.heap.size,0,none⟩) 1 1) (by rfl) (by rfl) (xs:=st'.code) (ys:=[⟨op,oa⟩]) ((HRX.o.1.code.drew).alloc _) (RowAt.lit (α:=In) (y:=⟨op,oa⟩) (znb _ _)) HBD.o.1 HBD.o.2.1 (st'.code.length+1) HBD.o.2.2 ?_;intro a1 cp w9 hr1 hk1 hf1;have hb1:=(hk1.block b (by simp;omega) (fun e=>NB.o b e rfl)).trans ((zne w8.drew _ _ b0).trans HRX.o.1.h);have y1:w9.cell? ⟨b,0,none⟩=some (.slice ca st'.code.length cc):=by{rw[zch hb1];rfl};have y3:∀o,w9.frozen? ⟨b,o,none⟩=false:=fun o=>zfr hb1 o;have b1:b<w9.heap.size:=zlt hb1;have FF:=zh3 hr1 hk1 hf1;clear hr1 hk1 hf1 hb1))
 all_goals
  have S:=(HRX.o.1.ext (((znv _ w8).drew).alloc (znc _) (.cells #[.int .i64 op,.int .i64 oa] 106))).setCode FF.o.1 FF.o.2.1 FF.o.2.2;have HS:=zhd S;clear S;go_wp2_with fail;go_ret;exact⟨_,rfl,zhd ⟨HS.o.1,HRX.o.2.trans ((RK.ext (((znv _ w8).drew).alloc (znc _) _)).trans HS.o.2)⟩⟩
def ye0 (x:ByteArray):Bool:= !(Lib.hasSuffix x.data.toList [58])&&(Lib.hasPrefix x.data.toList [32,32]&&((yet (yf8 x)).any (fun op=>(ofL op).1.operand==0)&& !(ykr x)))
theorem ygA {N:Nat}{x:ByteArray}(hs:x.size≤65536)(hb:ye0 x=true):LineLaw N x:=by
 unfold ye0 at hb;rw[Bool.and_eq_true,Bool.and_eq_true,Bool.and_eq_true,Bool.not_eq_true',Bool.not_eq_true']at hb;obtain⟨hA,hp,hf,hm⟩:=hb;cases hfo:yet (yf8 x)with
 |none=>rw[hfo]at hf;cases hf
 |some op=>
  rw[hfo]at hf;have ho:(ofL op).1.operand=0:=by simpa using hf
  have hi:((ofL op).1.operand !=0)=false:=by rw[ho];rfl
  have hl:yjJ x=false:=by unfold yjJ;rw[hA];rfl
  have hr:∀(n:Int) (st:RSt),lineL n x st=(0,{st with code:=st.code++[⟨op,0⟩]}):=by
   intro n st;unfold lineL;rw[if_neg (by rw[hl];exact Bool.noConfusion),if_neg (by rw[hp];exact Bool.noConfusion),hfo];dsimp only;rw[hm,hi,if_neg (by simp),if_neg (by simp)]
  refine⟨fun b v st n W R G hZ m hm' h1 h2 h3 h4 h5=> ?_,fun line n st hn h=> ?_⟩
  ·rw[hr]
   exact yk2 b v st n x W R hs G hA hp op _ hfo rfl hm hi h4 _ rfl
  ·rw[hr]
   exact⟨by have:=h.code;dsimp only;rw[znk];exact Nat.add_le_add_right this 1,by have:=h.consts;dsimp only;omega,by have:=h.names;dsimp only;omega,by have:=h.jumps;dsimp only;omega,h.p0,h.p1,h.wf,h.at_⟩
structure PushB (x:ByteArray)(y:Val):Prop where
 a:Lib.hasSuffix x.data.toList [58]=false
 p:Lib.hasPrefix x.data.toList [32,32]=true
 f:yet (yf8 x)=some 1
 m:ykr x=true
 k:yfA (ycL x).data.toList 0= .ok y (ycL x).size
 z:checkL y=0
 n0:Lib.hasPrefix ((ycL x).data.toList.drop 0) [110,105,108]=false
 n1:yd4 (ycL x).data.toList 0 34=false
 n2:yd4 (ycL x).data.toList 0 91=false
 v:yn1 8 (ycL x).data.toList 0=yfA (ycL x).data.toList 0
theorem yjl {N:Nat}{x:ByteArray}{k:Val}(hs:x.size≤65536)(P:PushB x k):LineLaw N x:=by
 have hsz:(ycL x).data.toList.length=(ycL x).size:=by simp
 have hpv:ycE (ycL x).data.toList=(k,0):=by
  unfold ycE;rw[P.v,P.k];dsimp only;rw[hsz,if_neg (Nat.lt_irrefl _),P.z,if_neg (fun h=>h rfl)]
 have hi:((ofL ((1:Nat):Int)).1.operand !=0)=true:=by decide
 have hl:yjJ x=false:=by unfold yjJ;rw[P.a];rfl
 have hr:∀(n:Int) (st:RSt),lineL n x st=(0,{st with consts:=(yfh k st.consts).2,code:=st.code++[⟨((1:Nat):Int),((yfh k st.consts).1:Int)⟩]}):=by
  intro n st;unfold lineL;rw[if_neg (by rw[hl];exact Bool.noConfusion),if_neg (by rw[P.p];exact Bool.noConfusion),P.f];dsimp only;rw[P.m,hi,if_neg (by decide),if_pos rfl];have ho:operL (ofL ((1:Nat):Int)).1.operand n (ycL x) st=(((yfh k st.consts).1:Int),0,{st with consts:=(yfh k st.consts).2}):=by
   unfold operL;rw[if_pos (by decide),hpv,if_neg (fun h=>h rfl)]
  rw[ho];dsimp only;rw[if_neg (fun h=>h rfl)]
 refine⟨fun b v st n W R G hZ m hm' h1 h2 h3 h4 h5=> ?_,fun line n st hn h=> ?_⟩
 ·rw[hr]
  exact yk3 b v st n x W R hs G P.a P.p 1 _ P.f rfl P.m hi ((yfh k st.consts).1:Int) {st with consts:=(yfh k st.consts).2} hZ (fun Z1 w6 hZ1 R6 G6=>ykS b v st n (ycL x) w6 R6 hZ1 h1 k (yjn (ycL x) w6 (by have:=ygQ x;omega) G6 P.n0 P.n1 P.n2 k P.k P.z) _ _ rfl) h4 _ rfl
 ·rw[hr]
  obtain⟨q1,q2⟩:=ylv (x:=k) (l:=st.consts) (i:=(yfh k st.consts).1) (l':=(yfh k st.consts).2) rfl;exact⟨by have:=h.code;dsimp only;rw[znk];exact Nat.add_le_add_right this 1,by have:=h.consts;dsimp only;omega,by have:=h.names;dsimp only;omega,by have:=h.jumps;dsimp only;omega,h.p0,h.p1,fun y hy=>(q2 y hy).elim (h.wf y) (fun e=>e▸yjv P.k),h.at_⟩
theorem ykk {N:Nat}(s:ByteArray)(w:World)(G:Gl Tryz.prog N w)(h:s.size≤65536)(hn:Lib.hasSuffix s.data.toList [10]=true)(hb:∀x∈textL s,ye0 x=true∨∃k,PushB x k):Calls Tryz.prog 10 #[.string s] w (ynR w (yor s)):=by
 unfold yor;rw[znd (show¬65536<s.size from by omega),hn];simp only[znl,Bool.not_true];exact ykj s w G h hn (fun x hx=>(hb x hx).elim (ygA (znf (yez x hx) h)) (fun⟨_,P⟩=>yjl (znf (yez x hx) h) P)) _ rfl _ rfl
end Go.Proofs.YtpagmlndgblhhaaGreatDoor
namespace Go.Va
open Go.Own Go.RowKit
open Go.Proofs.YtpagmlndgblhhaaGreatDoor
def ynU:ByteArray:=⟨#[32,32,112,117,115,104,32,53,10,32,32,116,105,109,101,114,10,32,32,119,97,105,116,10,32,32,114,101,116,117,114,110,10]⟩
def ydp:Img:=⟨[⟨1,0⟩,⟨17,0⟩,⟨18,0⟩,⟨25,0⟩],[ybn 5],[],0⟩
def ygH (k:Int):List Ev:=[⟨1,2,1,0,0,⟨#[]⟩,⟨#[]⟩,yai⟩,⟨2,2,2,0,0,⟨#[]⟩,⟨#[]⟩,yai⟩,⟨3,2,11,1,k,⟨#[]⟩,⟨#[]⟩,yai⟩]
theorem ymr:yor ynU=(ydp,0,0):=by kernel_rfl
theorem yk9:textL ynU=[⟨#[32,32,112,117,115,104,32,53]⟩,⟨#[32,32,116,105,109,101,114]⟩,⟨#[32,32,119,97,105,116]⟩,⟨#[32,32,114,101,116,117,114,110]⟩]:=by kernel_rfl
theorem yla:PushB ⟨#[32,32,112,117,115,104,32,53]⟩ (ybn 5):=⟨by kernel_rfl,by kernel_rfl,by kernel_rfl,by kernel_rfl,by kernel_rfl,by kernel_rfl,by kernel_rfl,by kernel_rfl,by kernel_rfl,by kernel_rfl⟩
theorem yjM:∀x∈textL ynU,ye0 x=true∨∃k,PushB x k:=by
 rw[yk9];intro x hx;simp only[List.mem_cons,List.not_mem_nil,or_false]at hx;rcases hx with rfl|rfl|rfl|rfl
 ·exact .inr ⟨_,yla⟩
 ·exact .inl (by kernel_rfl)
 ·exact .inl (by kernel_rfl)
 ·exact .inl (by kernel_rfl)
theorem ygG:(ya1 ydp).2.2=0:=by kernel_rfl
def yhD (k:Int):RP:=yaK (yae ydp) (rp0 (yae ydp)) (ygH k)
theorem ydW:(yhD 7).err=0∧(yhD 7).seen=3∧(yhD 7).next=1∧(yhD 7).closed=false∧(ybD (yhD 7)).length=0:=⟨by kernel_rfl,by kernel_rfl,by kernel_rfl,by kernel_rfl,by kernel_rfl⟩
theorem yjL:((yhD 7).m.made.all (fun c=>decide (szV c.v≤1073741824)))=true∧decide ((yhD 7).m.made.length≤4000000)=true∧decide ((yhD 7).next≤(yhD 7).m.made.length)=true:=⟨by kernel_rfl,by kernel_rfl,by kernel_rfl⟩
theorem ylG:(yhD 8).err=150:=by kernel_rfl
theorem yjN:(ycj (ygH 8)).length=1∧(yiT (ygH 8)).length=1:=⟨by kernel_rfl,by kernel_rfl⟩
theorem ymp:(ycP (yae ydp) [⟨1,2,1,0,0,⟨#[]⟩,⟨#[]⟩,yai⟩]).map (fun e=>e.b)=[7]:=by kernel_rfl
theorem ymq:∃ev,ycP (yae ydp) [⟨1,2,1,0,0,⟨#[]⟩,⟨#[]⟩,yai⟩]=[ev]∧ev.b=7:=by
 have h:=ymp;obtain⟨l,hl⟩:∃l,ycP (yae ydp) [⟨1,2,1,0,0,⟨#[]⟩,⟨#[]⟩,yai⟩]=l:=⟨_,rfl⟩;rw[hl]at h⊢;cases l with
 |nil=>cases h
 |cons e t=>
  cases t with
  |nil=>exact⟨e,rfl,by simpa using h⟩
  |cons a b=>simp at h
end Go.Va
namespace Go.Proofs.YtpagmlndgblhhaaGreatDoor
open Go.RowKit Go.Own Go.Own.MapTy Go.Va Go.Sort
open Go.Own.Cells (sz enc)
set_option linter.unusedVariables false
set_option linter.unusedSimpArgs false
def ecs (b:Int):List EC:=[⟨1,2,1,0,0,⟨#[]⟩,⟨#[]⟩,⟨0,0,⟨#[]⟩,none,0,0⟩⟩,⟨2,2,2,0,0,⟨#[]⟩,⟨#[]⟩,⟨0,0,⟨#[]⟩,none,0,0⟩⟩,⟨3,2,11,1,b,⟨#[]⟩,⟨#[]⟩,⟨0,0,⟨#[]⟩,none,0,0⟩⟩]
theorem yhJ {w:World}{g:Nat}{b:Int}(h:w.heap[g]? =some (.cells #[.int .i64 1,.int .i64 2,.int .i64 1,.int .i64 0,.int .i64 0,.string ⟨#[]⟩,.string ⟨#[]⟩,.int .i64 0,.int .i64 0,.string ⟨#[]⟩,.slice none 0 0,.int .i64 2,.int .i64 2,.int .i64 2,.int .i64 0,.int .i64 0,.string ⟨#[]⟩,.string ⟨#[]⟩,.int .i64 0,.int .i64 0,.string ⟨#[]⟩,.slice none 0 0,.int .i64 3,.int .i64 2,.int .i64 11,.int .i64 1,.int .i64 b,.string ⟨#[]⟩,.string ⟨#[]⟩,.int .i64 0,.int .i64 0,.string ⟨#[]⟩,.slice none 0 0] 40 (0,0))):XRd (fun j=>j=g) w (.slice (some ⟨g,0,none⟩) 3 3) (ygH b):=by
 refine⟨ecs b,RdF.of_row (RowAt.made h rfl rfl (by unfold maxLen;omega)) (fun q hq=>by cases hq;rfl),rfl,fun i c x hc hx=> ?_⟩
 match i,hc,hx with
 |0,hc,hx=>cases hc;cases hx;exact⟨rfl,rfl,rfl,rfl,rfl,rfl,rfl,yaD _ _⟩
 |1,hc,hx=>cases hc;cases hx;exact⟨rfl,rfl,rfl,rfl,rfl,rfl,rfl,yaD _ _⟩
 |2,hc,hx=>cases hc;cases hx;exact⟨rfl,rfl,rfl,rfl,rfl,rfl,rfl,yaD _ _⟩
 |n+3,hc,hx=>cases hc
theorem ym8 {w:World}{g:Nat}(h:w.heap[g]? =some (.cells #[.int .i64 1,.int .i64 2,.int .i64 1,.int .i64 0,.int .i64 0,.string ⟨#[]⟩,.string ⟨#[]⟩,.int .i64 0,.int .i64 0,.string ⟨#[]⟩,.slice none 0 0] 40 (0,0))):XRd (fun j=>j=g) w (.slice (some ⟨g,0,none⟩) 1 1) [(⟨1,2,1,0,0,⟨#[]⟩,⟨#[]⟩,yai⟩:Ev)]:=by
 refine⟨[⟨1,2,1,0,0,⟨#[]⟩,⟨#[]⟩,⟨0,0,⟨#[]⟩,none,0,0⟩⟩],RdF.of_row (RowAt.made h rfl rfl (by unfold maxLen;omega)) (fun q hq=>by cases hq;rfl),rfl,fun i c x hc hx=> ?_⟩
 match i,hc,hx with
 |0,hc,hx=>cases hc;cases hx;exact⟨rfl,rfl,rfl,rfl,rfl,rfl,rfl,yaD _ _⟩
 |n+1,hc,hx=>cases hc
theorem yjX (b:Int):∀e∈ygH b,e.v.wf:=by
 intro e he;have hv:e.v=yai:=by
  unfold ygH at he;simp only[List.mem_cons,List.not_mem_nil,or_false]at he;rcases he with rfl|rfl|rfl<;>rfl
 rw[hv];exact ydt
theorem ykf:∀x∈ydp.consts,x.wf:=by
 intro x hx;rw[List.mem_singleton.1 hx];simp[ybn,Val.wf_eq,Val.kind,Val.num,Val.txt,Val.list,Val.wf.wfL];decide
theorem yfJ {N:Nat}(W:World)(G:Gl Tryz.prog N W):Calls Tryz.prog 23 #[] W fun e w'=>e= .returned (.bool true)∧Below W.heap.size W w':=by
 have PA:=zhd (ymr▸ykk ynU W G (by decide) (by kernel_rfl) yjM);have HG:=zhd G;clear G;go_enter Tryz.func23,Tryz.ntmps23;go_wp2_with fail;refine PA.o.mono ?_;rintro e w1 ⟨i1,rfl,hI1,hB1⟩;obtain⟨ca,cn,cc,ka,kn,kc,na,nn,nc,pl⟩:=i1;dsimp only;have HI:=zh2 hI1 hB1;clear hI1 hB1 PA;go_upto_region 3 with(fail);refine yaa ?_;intro w2 hw2;have h3:=ybY (W:=w1) (X:=.cells #[.slice ca cn cc,.slice ka kn kc,.slice na nn nc,.int .i64 pl] 28) (Y:=.cells #[.int .i64 0,.int .i64 0] 31) (Z:=.cells #[.int .i64 1,.int .i64 2,.int .i64 1,.int .i64 0,.int .i64 0,.string ⟨#[]⟩,.string ⟨#[]⟩,.int .i64 0,.int .i64 0,.string ⟨#[]⟩,.slice none 0 0,.int .i64 2,.int .i64 2,.int .i64 2,.int .i64 0,.int .i64 0,.string ⟨#[]⟩,.string ⟨#[]⟩,.int .i64 0,.int .i64 0,.string ⟨#[]⟩,.slice none 0 0,.int .i64 3,.int .i64 2,.int .i64 11,.int .i64 1,.int .i64 7,.string ⟨#[]⟩,.string ⟨#[]⟩,.int .i64 0,.int .i64 0,.string ⟨#[]⟩,.slice none 0 0] 40);have B2:Below w1.heap.size w1 w2:=by rw[hw2];exact((zal).alloc (by simp) _).alloc (by simp;omega) _
 have b2:w2.heap[w1.heap.size]? =some (.cells #[.slice ca cn cc,.slice ka kn kc,.slice na nn nc,.int .i64 pl] 28 (0,0)):=by rw[hw2];exact h3.1
 have e2:w2.heap[w1.heap.size+1+1]? =some (.cells #[.int .i64 1,.int .i64 2,.int .i64 1,.int .i64 0,.int .i64 0,.string ⟨#[]⟩,.string ⟨#[]⟩,.int .i64 0,.int .i64 0,.string ⟨#[]⟩,.slice none 0 0,.int .i64 2,.int .i64 2,.int .i64 2,.int .i64 0,.int .i64 0,.string ⟨#[]⟩,.string ⟨#[]⟩,.int .i64 0,.int .i64 0,.string ⟨#[]⟩,.slice none 0 0,.int .i64 3,.int .i64 2,.int .i64 11,.int .i64 1,.int .i64 7,.string ⟨#[]⟩,.string ⟨#[]⟩,.int .i64 0,.int .i64 0,.string ⟨#[]⟩,.slice none 0 0] 40 (0,0)):=by rw[hw2];exact h3.2.2
 have H2:=zh3 B2 b2 e2;clear hw2 h3;have q0:=zca b2 0 rfl;have q1:=zca b2 1 rfl;have q2:=zca b2 2 rfl;have q3:=zca b2 3 rfl;have ql:=zlt b2;have RY:=zhd (yeG _ w2 (HG.o.below (HI.o.2.trans (B2.mono HI.o.2.size))) (by have:=HG.o.n;have h1:=HI.o.2.size;have h2:=B2.size;omega) ⟨ca,cn,cc,ka,kn,kc,na,nn,nc,pl⟩ ydp (HI.o.1.keep (S:=fun _=>False) (zkb B2) (fun _ _ f=>f)) ykf (ya1 ydp) rfl _ _ _ (ygH 7) ((yhJ e2).mono (fun g hg hl=>hl)) (yjX 7) (by decide) (by decide));clear B2 b2 e2;go_wp2_with fail;refine RY.o.mono ?_;rintro e w3 (⟨h,_⟩|⟨_,h,_⟩|⟨_,_,rb,b,mb,v,rfl,H3⟩)
 ·exact absurd ygG h
 ·exact absurd ydW.1 h
 have PD:=zhd (yc7 rb b mb v _ _ w3 H3.o.1 ydW.1 ydW.2.2.2.1 (fun c hc=>znx (List.all_eq_true.1 yjL.1 c hc)) (znx yjL.2.1) (znx yjL.2.2));have SN:=zhd (fun X (B:Below w3.heap.size w3 X)=>(show Calls Tryz.prog 36 #[.pointer (some ⟨rb,0,none⟩)] X (fun e w'=>e= .returned (.int .i64 3)∧Below X.heap.size X w')from by have h:=ydG rb b mb v _ _ X (H3.o.1.ext B);rw[show yaK (yae ydp) (rp0 (yae ydp)) (ygH 7)=yhD 7 from rfl,ydW.2.1]at h;exact h));have FN:=zhd (fun X (B:Below w3.heap.size w3 X)=>(show Calls Tryz.prog 22 #[.pointer (some ⟨rb,0,none⟩)] X (fun e w'=>e= .returned (.int .i64 1)∧Below X.heap.size X w')from by have h:=yie rb b mb v _ _ X (H3.o.1.ext B);rw[show yaK (yae ydp) (rp0 (yae ydp)) (ygH 7)=yhD 7 from rfl,ydW.2.2.1]at h;exact h));have CD:=zhd (fun X (B:Below w3.heap.size w3 X)=>(show Calls Tryz.prog 17 #[.pointer (some ⟨rb,0,none⟩)] X (fun e w'=>e= .returned (.bool false)∧Below X.heap.size X w')from by have h:=ycs rb b mb v _ _ X (H3.o.1.ext B);rw[show yaK (yae ydp) (rp0 (yae ydp)) (ygH 7)=yhD 7 from rfl,ydW.2.2.2.1]at h;exact h));have HB3:=zh2 H3.o.2.2 (zlt H2.o.2.2);clear RY q0 q1 q2 q3 ql H3;go_wp2_with fail
 refine PD.o.mono ?_;rintro e w4 ⟨q4,rfl,H4⟩;obtain⟨a4,c4,rfl⟩:∃a c,q4= .slice a 0 c:=by
  obtain⟨a,c,h⟩:=H4.o.1.slice;rw[zmd,show(ybD (yaK (yae ydp) (rp0 (yae ydp)) (ygH 7))).length=0 from ydW.2.2.2.2]at h;exact⟨a,c,h⟩
 have B4:=zhd H4.o.2.2;clear PD H4;go_wp2_with fail;refine(SN.o _ B4.o).mono ?_;rintro e w5 ⟨rfl,hB5⟩;have B5:=zhd (B4.o.trans (hB5.mono B4.o.size));clear hB5 SN;go_wp2_with fail;refine(FN.o _ B5.o).mono ?_;rintro e w6 ⟨rfl,hB6⟩;have B6:=zhd (B5.o.trans (hB6.mono B5.o.size));clear hB6 FN;go_wp2_with fail;refine(CD.o _ B6.o).mono ?_;rintro e w7 ⟨rfl,hB7⟩;have B27:Below w2.heap.size w2 w7:=HB3.o.1.trans ((B6.o.trans (hB7.mono B6.o.size)).mono HB3.o.1.size);have b7:=(B27.block w1.heap.size (zlt H2.o.2.1)).trans H2.o.2.1;have e7:=(B27.block (w1.heap.size+1+1) HB3.o.2).trans H2.o.2.2;have H7:=zh3 B27 b7 e7;clear hB7 CD B27;have q0:=zca b7 0 rfl;have q1:=zca b7 1 rfl;have q2:=zca b7 2 rfl;have q3:=zca b7 3 rfl;have ql:=zlt b7;have y0:=zca e7 0 rfl;have y1:=zca e7 1 rfl;have y2:=zca e7 2 rfl;have y3:=zca e7 3 rfl;have y4:=zca e7 4 rfl;have y5:=zca e7 5 rfl;have y6:=zca e7 6 rfl;have y7:=zca e7 7 rfl;have y8:=zca e7 8 rfl;have y9:=zca e7 9 rfl;have y10:=zca e7 10 rfl;have yl:=zlt e7
 have SE:=zhd (fun X (B:Below w7.heap.size w7 X) (hX:X.heap[w7.heap.size]? =some (.cells #[.int .i64 1,.int .i64 2,.int .i64 1,.int .i64 0,.int .i64 0,.string ⟨#[]⟩,.string ⟨#[]⟩,.int .i64 0,.int .i64 0,.string ⟨#[]⟩,.slice none 0 0] 40 (0,0)))=>yh4 _ X (HG.o.below (HI.o.2.trans ((H2.o.1.trans ((H7.o.1.trans (B.mono H7.o.1.size)).mono H2.o.1.size)).mono HI.o.2.size))) ⟨ca,cn,cc,ka,kn,kc,na,nn,nc,pl⟩ ydp (HI.o.1.keep (S:=fun _=>False) (zkb (H2.o.1.trans ((H7.o.1.trans (B.mono H7.o.1.size)).mono H2.o.1.size))) (fun _ _ f=>f)) ykf (ya1 ydp) rfl _ _ _ _ ((ym8 hX).mono (fun g hg hl=>hl)) (by intro e he;rw[List.mem_singleton.1 he];exact ydt) (by decide));clear b7 e7;go_wp2_with fail;go_region_law ((go_simp;go_at_call 29;refine(SE.o _ (by first|exact(znv _ _).drew.alloc (znc _) _|exact(zal).drew) (by exact znb _ _)).mono ?_;rintro e w8 (⟨h,_⟩|⟨_,r8,rfl,H8⟩);exact absurd ygG h))
 all_goals
  obtain⟨ev,hev,hvb⟩:=ymq;have X8:=H8.o.1;rw[hev]at X8;have B78:Below w7.heap.size w7 w8:=znw (by first|exact(znv w7.heap.size w7).drew.alloc (znc _) _|exact((znv w7.heap.size w7).alloc (znc _) _).drew) (H8.o.2.2.mono (by simp));obtain⟨a8,c8,rfl⟩:∃a c,r8= .slice a 1 c:=X8.slice;obtain⟨g,off,cc8,rfl,hg,hrel,_,hcs⟩:=X8.at_ (i:=0) (x:=ev) rfl;have hrel2:EvF _ w8 cc8 ev:=hrel;have hb4:cc8.b=7:=hrel2.b.trans hvb;have m4:w8.cell? ⟨g,off+4,none⟩=some (.int .i64 7):=by
   have:=hcs 4 (.int .i64 cc8.b) rfl;rw[hb4]at this;simpa using this
  have e8:=(B78.block (w1.heap.size+1+1) yl).trans H7.o.2.2;have b8:=(B78.block w1.heap.size ql).trans H7.o.2.1;have hgw:w7.heap.size+1≤g:=by have:=H8.o.2.1 g rfl;simpa using this
  have hne:¬g=w1.heap.size+1+1:=by omega
  have hne2:¬w1.heap.size+1+1=g:=by omega
  have s26:=zca e8 26 rfl;have sf:∀o,w8.frozen? ⟨w1.heap.size+1+1,o,none⟩=false:=fun o=>zfr e8 o;have sl:=zlt e8;obtain⟨w9,hw9⟩:∃w9,w9=w8.setCell ⟨w1.heap.size+1+1,26,none⟩ (.int .i64 8):=⟨_,rfl⟩;have e9:w9.heap[w1.heap.size+1+1]? =some (.cells #[.int .i64 1,.int .i64 2,.int .i64 1,.int .i64 0,.int .i64 0,.string ⟨#[]⟩,.string ⟨#[]⟩,.int .i64 0,.int .i64 0,.string ⟨#[]⟩,.slice none 0 0,.int .i64 2,.int .i64 2,.int .i64 2,.int .i64 0,.int .i64 0,.string ⟨#[]⟩,.string ⟨#[]⟩,.int .i64 0,.int .i64 0,.string ⟨#[]⟩,.slice none 0 0,.int .i64 3,.int .i64 2,.int .i64 11,.int .i64 1,.int .i64 8,.string ⟨#[]⟩,.string ⟨#[]⟩,.int .i64 0,.int .i64 0,.string ⟨#[]⟩,.slice none 0 0] 40 (0,0)):=by
   rw[hw9];simp only[World.setCell,zni,e8];rfl
  have b9:w9.heap[w1.heap.size]? =some (.cells #[.slice ca cn cc,.slice ka kn kc,.slice na nn nc,.int .i64 pl] 28 (0,0)):=by rw[hw9];exact(znn _ _ _ _ (by show w1.heap.size≠w1.heap.size+1+1;omega)).trans b8
  have m9:w9.cell? ⟨g,off+4,none⟩=some (.int .i64 7):=by
   have K9:Keeps (fun j=>j=w1.heap.size+1+1) w8 w9:=by rw[hw9];exact Keeps.setCell (S:=fun j=>j=w1.heap.size+1+1) (p:=⟨w1.heap.size+1+1,26,none⟩) (Keeps.refl _ _) (.inl rfl) _
   exact(K9.cell (p:=⟨g,off+4,none⟩) hg hne).trans m4
  have B18:Below w1.heap.size w1 w8:=H2.o.1.trans ((H7.o.1.trans (B78.mono H7.o.1.size)).mono H2.o.1.size);have B19:Below w1.heap.size w1 w9:=by rw[hw9];exact B18.setCell (by show w1.heap.size≤w1.heap.size+1+1;omega) _
  have BW9:=HI.o.2.trans (B19.mono HI.o.2.size);have hg9:g<w9.heap.size:=by rw[hw9];simpa[World.setCell]using hg
  have RY:=zhd (yeG _ w9 (HG.o.below BW9) (by have:=HG.o.n;have h1:=BW9.size;omega) ⟨ca,cn,cc,ka,kn,kc,na,nn,nc,pl⟩ ydp (HI.o.1.keep (S:=fun _=>False) (zkb B19) (fun _ _ f=>f)) ykf (ya1 ydp) rfl _ _ _ (ygH 8) ((yhJ e9).mono (fun g hg hl=>hl)) (yjX 8) (by decide) (by decide));have H9:=zh4 BW9 e9 m9 hg9;clear SE y0 y1 y2 y3 y4 y5 y6 y7 y8 y9 y10 yl q0 q1 q2 q3 ql hne hne2 hrel hrel2 hcs hb4 X8 H8 B78 m4 hg hgw B18 B19 BW9 m9 hg9;go_upto_region 8 with(fail);rw[←hw9];clear hw9 s26 sf sl e8 b8;have q0:=zca b9 0 rfl;have q1:=zca b9 1 rfl;have q2:=zca b9 2 rfl;have q3:=zca b9 3 rfl;have ql:=zlt b9;clear e9 b9;go_wp2_with fail;refine RY.o.mono ?_;rintro e w10 (⟨h,_⟩|⟨_,h,rfl,H10⟩|⟨_,h,_⟩)
  ·exact absurd ygG h
  ·rw[show(yaK (yae ydp) (rp0 (yae ydp)) (ygH 8)).err=150 from ylG]
   have m10:=(H10.o.cell (p:=⟨g,off+4,none⟩) H9.o.2.2.2).trans H9.o.2.2.1;have g10:=znj H9.o.2.2.2 H10.o.size;have e10:=(H10.o.block (w1.heap.size+1+1) (zlt H9.o.2.1)).trans H9.o.2.1;have OU:=zhd (ykQ w10 _ _ _ (ygH 8) (yhJ e10) (by decide) (by decide));have H10B:=zh2 (H9.o.1.trans (H10.o.mono H9.o.1.size)) e10;clear H10 q0 q1 q2 q3 ql RY e10 h;go_wp2_with fail;refine OU.o.mono ?_;rintro e w11 ⟨r11,rfl,H11⟩;obtain⟨a11,c11,rfl⟩:∃a c,r11= .slice a 1 c:=by
    obtain⟨a,c,h⟩:=H11.o.1.slice;rw[zmd,yjN.1]at h;exact⟨a,c,h⟩
   have MD:=zhd (ykZ w11 _ _ _ (ygH 8) (yhJ ((H11.o.2.2.block (w1.heap.size+1+1) (zlt H10B.o.2)).trans H10B.o.2)) (by decide) (by decide));have H11B:=zhd (H10B.o.1.trans (H11.o.2.2.mono H10B.o.1.size));clear OU H11 m10 g10;go_wp2_with fail;refine MD.o.mono ?_;rintro e w12 ⟨r12,rfl,H12⟩;obtain⟨a12,c12,rfl⟩:∃a c,r12= .slice a 1 c:=by
    obtain⟨a,c,h⟩:=H12.o.1.slice;rw[zmd,yjN.2]at h;exact⟨a,c,h⟩
   have H12B:=zhd (H11B.o.trans (H12.o.2.2.mono H11B.o.size));clear MD H12;go_wp2_with fail;go_ret;exact⟨rfl,H12B.o⟩
  ·have h:(yhD 8).err=0:=h
   rw[ylG]at h;cases h
theorem yby {k:Int}(h:1≤k∧k≤21):k=1∨k=2∨k=3∨k=4∨k=5∨k=6∨k=7∨k=8∨k=9∨k=10∨k=11∨k=12∨k=13∨k=14∨k=15∨k=16∨k=17∨k=18∨k=19∨k=20∨k=21:=by omega
theorem ym6 (k:Int)(h:1≤k∧k≤21)(W:World)(r:Bool)(hr:hasF (evF k) 65=r):Calls Tryz.prog 73 #[.int .i64 k] W (fun e w'=>e= .returned (.bool r)∧w'=W):=by
 rcases yby h with rfl|rfl|rfl|rfl|rfl|rfl|rfl|rfl|rfl|rfl|rfl|rfl|rfl|rfl|rfl|rfl|rfl|rfl|rfl|rfl|rfl
 all_goals
  have HR:=zhd hr;clear hr h;go_enter Tryz.func73,Tryz.ntmps73;go_wp2_with fail;go_ret;exact⟨by rw[←HR.o];exact congrArg (fun b=>Ending.returned (.bool b)) (by kernel_rfl),rfl⟩
theorem ym5 (k:Int)(h:1≤k∧k≤21)(W:World)(r:Bool)(hr:hasF (evF k) 66=r):Calls Tryz.prog 74 #[.int .i64 k] W (fun e w'=>e= .returned (.bool r)∧w'=W):=by
 rcases yby h with rfl|rfl|rfl|rfl|rfl|rfl|rfl|rfl|rfl|rfl|rfl|rfl|rfl|rfl|rfl|rfl|rfl|rfl|rfl|rfl|rfl
 all_goals
  have HR:=zhd hr;clear hr h;go_enter Tryz.func74,Tryz.ntmps74;go_wp2_with fail;go_ret;exact⟨by rw[←HR.o];exact congrArg (fun b=>Ending.returned (.bool b)) (by kernel_rfl),rfl⟩
theorem ym4 (k:Int)(h:1≤k∧k≤21)(W:World)(r:Bool)(hr:hasF (evF k) 78=r):Calls Tryz.prog 75 #[.int .i64 k] W (fun e w'=>e= .returned (.bool r)∧w'=W):=by
 rcases yby h with rfl|rfl|rfl|rfl|rfl|rfl|rfl|rfl|rfl|rfl|rfl|rfl|rfl|rfl|rfl|rfl|rfl|rfl|rfl|rfl|rfl
 all_goals
  have HR:=zhd hr;clear hr h;go_enter Tryz.func75,Tryz.ntmps75;go_wp2_with fail;go_ret;exact⟨by rw[←HR.o];exact congrArg (fun b=>Ending.returned (.bool b)) (by kernel_rfl),rfl⟩
theorem ym3 (k:Int)(h:1≤k∧k≤21)(W:World)(r:Bool)(hr:hasF (evF k) 84=r):Calls Tryz.prog 76 #[.int .i64 k] W (fun e w'=>e= .returned (.bool r)∧w'=W):=by
 rcases yby h with rfl|rfl|rfl|rfl|rfl|rfl|rfl|rfl|rfl|rfl|rfl|rfl|rfl|rfl|rfl|rfl|rfl|rfl|rfl|rfl|rfl
 all_goals
  have HR:=zhd hr;clear hr h;go_enter Tryz.func76,Tryz.ntmps76;go_wp2_with fail;go_ret;exact⟨by rw[←HR.o];exact congrArg (fun b=>Ending.returned (.bool b)) (by kernel_rfl),rfl⟩
theorem ym2 (k:Int)(h:1≤k∧k≤21)(W:World)(r:Bool)(hr:hasF (evF k) 86=r):Calls Tryz.prog 77 #[.int .i64 k] W (fun e w'=>e= .returned (.bool r)∧w'=W):=by
 rcases yby h with rfl|rfl|rfl|rfl|rfl|rfl|rfl|rfl|rfl|rfl|rfl|rfl|rfl|rfl|rfl|rfl|rfl|rfl|rfl|rfl|rfl
 all_goals
  have HR:=zhd hr;clear hr h;go_enter Tryz.func77,Tryz.ntmps77;go_wp2_with fail;go_ret;exact⟨by rw[←HR.o];exact congrArg (fun b=>Ending.returned (.bool b)) (by kernel_rfl),rfl⟩
theorem ykL (k:Int)(h:¬(1≤k∧k≤21))(W:World):Calls Tryz.prog 72 #[.int .i64 k] W (fun e w'=>e= .returned (.string ⟨#[]⟩)∧Below W.heap.size W w'):=by
 by_cases h1:k<1
 ·have d1:decide (k<1)=true:=zno h1
  clear h;go_enter Tryz.func72,Tryz.ntmps72;go_wp2_with fail;go_ret;exact⟨rfl,zal⟩
 ·have h2:21<k:=by omega
  have d1:decide (k<1)=false:=znd h1;have d2:decide (21<k)=true:=zno h2;clear h;go_enter Tryz.func72,Tryz.ntmps72;go_wp2_with fail;go_ret;exact⟨rfl,zal⟩
theorem yji (k:Int)(h:1≤k∧k≤21)(W:World):Calls Tryz.prog 72 #[.int .i64 k] W (fun e w'=>∃s:ByteArray,e= .returned (.string s)∧Hid (s.size≠0∧Below W.heap.size W w')):=by
 rcases yby h with rfl|rfl|rfl|rfl|rfl|rfl|rfl|rfl|rfl|rfl|rfl|rfl|rfl|rfl|rfl|rfl|rfl|rfl|rfl|rfl|rfl
 all_goals
  clear h;go_enter Tryz.func72,Tryz.ntmps72;go_wp2_with fail;go_ret;exact⟨_,rfl,zhd ⟨by decide,zal⟩⟩
theorem ykg (a b:Bool):a=true∨(a=false∧b=true)∨(a=false∧b=false):=by cases a<;>cases b<;>simp
theorem ygy (id t k a b:Int)(nm tx:ByteArray)(vk vn:Int)(vs:ByteArray)(la:Option Addr)(ln lc:Nat)(x:Val)(F:Nat→Prop)(w:World)(C:CF F w ⟨vk,vn,vs,la,ln,lc⟩ x)(hw:x.wf)(r:Int)(hr:ymP k id t a b nm.size tx.size vk (checkL x)=r):
  Calls Tryz.prog 34 #[.agg #[.int .i64 id,.int .i64 t,.int .i64 k,.int .i64 a,.int .i64 b,.string nm,.string tx,.int .i64 vk,.int .i64 vn,.string vs,.slice la ln lc]] w (fun e w'=>e= .returned (.int .i64 r)∧Below w.heap.size w w'):=by
 obtain⟨w0,hw0⟩:∃w0,w0=w.alloc (.cells #[.int .i64 id,.int .i64 t,.int .i64 k,.int .i64 a,.int .i64 b,.string nm,.string tx,.int .i64 vk,.int .i64 vn,.string vs,.slice la ln lc] 40):=⟨_,rfl⟩;have B0:=zba hw0;have hB:=zha hw0;have r2:=zca hB 2 rfl;have lr:w.heap.size<w0.heap.size:=zlt hB;have HCK:=zhd (fun W (B:Below w.heap.size w W)=>yij x vk vn vs la ln lc F W (C.keep (S:=fun _=>False) (zkb B) (fun _ _ f=>f)) hw);obtain⟨cl,hcl⟩:∃cl,checkL x=cl:=⟨_,rfl⟩;rw[hcl]at hr HCK;have H0:=zh2 B0 hB;clear B0 hB C hw hcl;unfold ymP at hr;by_cases hk:1≤k∧k≤21
 ·obtain⟨e1,e2,e3⟩:=yeL hk
  rw[e1]at hr;dsimp only at hr;have NY:=zhd (yji k hk w0);have HA:=zhd (fun W=>ym6 k hk W _ rfl);have HBB:=zhd (fun W=>ym5 k hk W _ rfl);have HN:=zhd (fun W=>ym4 k hk W _ rfl);have HT:=zhd (fun W=>ym3 k hk W _ rfl);have HV:=zhd (fun W=>ym2 k hk W _ rfl);generalize hasF (evF k) 65=hA at*;generalize hasF (evF k) 66=hBb at*;generalize hasF (evF k) 78=hN at*;generalize hasF (evF k) 84=hT at*;generalize hasF (evF k) 86=hV at*;have HR0:=zhd hr;clear e1 e2 e3 hk hr;go_enter Tryz.func34,Tryz.ntmps34;go_wp2_with fail;rw[←hw0];clear hw0;refine NY.o.mono ?_;rintro e w5 ⟨sn,rfl,H5⟩;have hB5:=H5.o.2;have hne:sn.toList.isEmpty=false:=by rw[ybC];exact znd H5.o.1
  have hb5:=(hB5.block w.heap.size lr).trans H0.o.2;have HB:=zhd (H0.o.1.trans (hB5.mono H0.o.1.size));have q0:=zca hb5 0 rfl;have q1:=zca hb5 1 rfl;have q3:=zca hb5 3 rfl;have q4:=zca hb5 4 rfl;have q5:=zca hb5 5 rfl;have q6:=zca hb5 6 rfl;have q7:=zca hb5 7 rfl;have q8:=zca hb5 8 rfl;have q9:=zca hb5 9 rfl;have q10:=zca hb5 10 rfl;have l5:w.heap.size<w5.heap.size:=zlt hb5;clear hb5 hB5 r2 lr;by_cases hbad:id<1∨1048576<id∨t<0∨4611686018427387903<t∨a<0∨b<0
  ·have HR:=zhd (show(1:Int)=r from by
    have h:=HR0.o;by_cases g:id<1∨1048576<id∨t<0∨4611686018427387903<t
    ·rw[if_pos g]at h;exact h
    ·rw[if_neg g,if_pos (by omega)]at h;exact h)
   by_cases h1:id<1
   ·have d1:decide (id<1)=true:=zno h1
    go_wp2_with fail
    all_goals
     go_ret;exact⟨by rw[←HR.o];rfl,HB.o⟩
   ·have d1:decide (id<1)=false:=znd h1
    by_cases h2:1048576<id
    ·have d2:decide (1048576<id)=true:=zno h2
     go_wp2_with fail
     all_goals
      go_ret;exact⟨by rw[←HR.o];rfl,HB.o⟩
    ·have d2:decide (1048576<id)=false:=znd h2
     by_cases h3:t<0
     ·have d3:decide (t<0)=true:=zno h3
      go_wp2_with fail
      all_goals
       go_ret;exact⟨by rw[←HR.o];rfl,HB.o⟩
     ·have d3:decide (t<0)=false:=znd h3
      by_cases h4:4611686018427387903<t
      ·have d4:decide (4611686018427387903<t)=true:=zno h4
       go_wp2_with fail
       all_goals
        go_ret;exact⟨by rw[←HR.o];rfl,HB.o⟩
      ·have d4:decide (4611686018427387903<t)=false:=znd h4
       by_cases h5:a<0
       ·have d5:decide (a<0)=true:=zno h5
        go_wp2_with fail
        all_goals
         go_ret;exact⟨by rw[←HR.o];rfl,HB.o⟩
       ·have d5:decide (a<0)=false:=znd h5
        have h6:b<0:=by omega
        have d6:decide (b<0)=true:=zno h6;go_wp2_with fail
        all_goals
         go_ret;exact⟨by rw[←HR.o];rfl,HB.o⟩
  ·have h1:¬id<1:=by omega
   have h2:¬1048576<id:=by omega
   have h3:¬t<0:=by omega
   have h4:¬4611686018427387903<t:=by omega
   have h5:¬a<0:=by omega
   have h6:¬b<0:=by omega
   have d1:decide (id<1)=false:=znd h1;have d2:decide (1048576<id)=false:=znd h2;have d3:decide (t<0)=false:=znd h3;have d4:decide (4611686018427387903<t)=false:=znd h4;have d5:decide (a<0)=false:=znd h5;have d6:decide (b<0)=false:=znd h6;have HR1:=zhd (show(if(hA=false∧a≠0)∨(hBb=false∧b≠0)then 1 else if 64<nm.size∨128<tx.size then 2 else if(hN=false∧nm.size≠0)∨(hT=false∧tx.size≠0)then 8 else if hV=false∧vk≠0 then 8 else cl)=r from by
    have h:=HR0.o;rw[if_neg (by omega)]at h;by_cases g:(hA=false∧a≠0)∨(hBb=false∧b≠0)
    ·rw[if_pos (.inr (.inr g))]at h;rw[if_pos g];exact h
    ·rw[if_neg (fun e=>e.elim h5 (fun e=>e.elim h6 g))]at h;rw[if_neg g];exact h)
   clear hbad;go_upto_region 6 with(fail);clear h1 h2 h3 h4 h5 h6 d1 d2 d3 d4 d5 d6;go_cut [56] (fun v56 wx=>v56= .bool (decide ((hA=false∧a≠0)∨(hBb=false∧b≠0)))∧wx=w5)
   case first=>
    have ha:(a !=0)=decide (a≠0):=by by_cases h:a=0<;>simp[h]
    have hb:(b !=0)=decide (b≠0):=by by_cases h:b=0<;>simp[h]
    have d:decide ((hA=false∧a≠0)∨(hBb=false∧b≠0))=((!hA&&(a !=0))||(!hBb&&(b !=0))):=by
     rw[ha,hb];cases hA<;>cases hBb<;>simp
    obtain⟨za,hza⟩:∃z,(a !=0)=z:=⟨_,rfl⟩;obtain⟨zb,hzb⟩:∃z,(b !=0)=z:=⟨_,rfl⟩;rw[hza,hzb]at d;have HD:=zhd d;clear d ha hb;rcases ykg hA za with rfl|⟨rfl,rfl⟩|⟨rfl,rfl⟩
    rotate_left 1
    ·go_wp2_with fail
     refine(HA.o _).mono ?_;rintro e w9 ⟨rfl,hw⟩;subst hw;go_wp2_with fail;go_meet
     case rel=>exact⟨by rw[HD.o];rfl,rfl⟩
    all_goals
     rcases ykg hBb zb with rfl|⟨rfl,rfl⟩|⟨rfl,rfl⟩
     all_goals
      go_wp2_with fail;refine(HA.o _).mono ?_;rintro e w9 ⟨rfl,hw⟩;subst hw;go_wp2_with fail;refine(HBB.o _).mono ?_;rintro e w9 ⟨rfl,hw⟩;subst hw;go_wp2_with fail;go_meet
      case rel=>exact⟨by rw[HD.o];rfl,rfl⟩
   case rest=>
    obtain⟨rfl,rfl⟩:=hcut;cases hd:decide ((hA=false∧a≠0)∨(hBb=false∧b≠0))with
    |true=>
     have HR:=zhd (show(1:Int)=r from by
      have h:=HR1.o;rw[if_pos (znx hd)]at h;exact h)
     go_wp2_with fail
     all_goals
      go_ret;exact⟨by rw[←HR.o];rfl,HB.o⟩
    |false=>
     have HR:=zhd (show(if 64<nm.size∨128<tx.size then 2 else if(hN=false∧nm.size≠0)∨(hT=false∧tx.size≠0)then 8 else if hV=false∧vk≠0 then 8 else cl)=r from by
      have h:=HR1.o;rw[if_neg (zny hd)]at h;exact h)
     by_cases h5:64<nm.size
     ·have HR:=zhd (show(2:Int)=r from by have h:=HR.o;rw[if_pos (.inl h5)]at h;exact h)
      have d5:decide ((64:Int)<(nm.size:Int))=true:=zno (by omega);go_wp2_with fail
      all_goals
       go_ret;exact⟨by rw[←HR.o];rfl,HB.o⟩
     ·have d5:decide ((64:Int)<(nm.size:Int))=false:=znd (by omega)
      by_cases h6:128<tx.size
      ·have HR:=zhd (show(2:Int)=r from by have h:=HR.o;rw[if_pos (.inr h6)]at h;exact h)
       have d6:decide ((128:Int)<(tx.size:Int))=true:=zno (by omega);go_wp2_with fail
       all_goals
        go_ret;exact⟨by rw[←HR.o];rfl,HB.o⟩
      ·have d6:decide ((128:Int)<(tx.size:Int))=false:=znd (by omega)
       have HR:=zhd (show(if(hN=false∧nm.size≠0)∨(hT=false∧tx.size≠0)∨(hV=false∧vk≠0)then 8 else cl)=r from by
        have h:=HR.o;rw[if_neg (fun h=>h.elim h5 h6)]at h;by_cases g:(hN=false∧nm.size≠0)∨(hT=false∧tx.size≠0)
        ·rw[if_pos g]at h;rw[if_pos (g.elim .inl (fun g=>.inr (.inl g)))];exact h
        ·rw[if_neg g]at h
         by_cases g2:hV=false∧vk≠0
         ·rw[if_pos g2]at h;rw[if_pos (.inr (.inr g2))];exact h
         ·rw[if_neg g2]at h;rw[if_neg (fun e=>e.elim (fun e=>g (.inl e)) (fun e=>e.elim (fun e=>g (.inr e)) g2))];exact h)
       go_upto_region 10 with(fail);clear d5 d6 h5 h6 hd;go_cut [95] (fun v95 wx=>v95= .bool (decide ((hN=false∧nm.size≠0)∨(hT=false∧tx.size≠0)∨(hV=false∧vk≠0)))∧wx=wc)
       case first=>
        have d:decide ((hN=false∧nm.size≠0)∨(hT=false∧tx.size≠0)∨(hV=false∧vk≠0))=((!hN&& !nm.toList.isEmpty)||((!hT&& !tx.toList.isEmpty)||(!hV&&(vk !=0)))):=by
         rw[ybC,ybC];by_cases ha:nm.size=0<;>by_cases hb:tx.size=0<;>by_cases hc:vk=0<;>cases hN<;>cases hT<;>cases hV<;>simp[ha,hb,hc]
        obtain⟨za,hza⟩:∃z,nm.toList.isEmpty=z:=⟨_,rfl⟩;obtain⟨zb,hzb⟩:∃z,tx.toList.isEmpty=z:=⟨_,rfl⟩;obtain⟨zc,hzc⟩:∃z,(vk !=0)=z:=⟨_,rfl⟩;rw[hza,hzb,hzc]at d;have HD:=zhd d;clear d;rcases ykg hN za with rfl|⟨rfl,rfl⟩|⟨rfl,rfl⟩
        rotate_left 2
        ·go_wp2_with fail
         refine(HN.o _).mono ?_;rintro e w9 ⟨rfl,hw⟩;subst hw;go_wp2_with fail;go_meet
         case rel=>exact⟨by rw[HD.o];rfl,rfl⟩
        all_goals
         rcases ykg hT zb with rfl|⟨rfl,rfl⟩|⟨rfl,rfl⟩
         rotate_left 2
         ·go_wp2_with fail
          refine(HN.o _).mono ?_;rintro e w9 ⟨rfl,hw⟩;subst hw;go_wp2_with fail;refine(HT.o _).mono ?_;rintro e w9 ⟨rfl,hw⟩;subst hw;go_wp2_with fail;go_meet
          case rel=>exact⟨by rw[HD.o];rfl,rfl⟩
         all_goals
          rcases ykg hV zc with rfl|⟨rfl,rfl⟩|⟨rfl,rfl⟩
          all_goals
           go_wp2_with fail;refine(HN.o _).mono ?_;rintro e w9 ⟨rfl,hw⟩;subst hw;go_wp2_with fail;refine(HT.o _).mono ?_;rintro e w9 ⟨rfl,hw⟩;subst hw;go_wp2_with fail;refine(HV.o _).mono ?_;rintro e w9 ⟨rfl,hw⟩;subst hw;go_wp2_with fail;go_meet
           case rel=>exact⟨by rw[HD.o];rfl,rfl⟩
       case rest=>
        obtain⟨rfl,rfl⟩:=hcut;cases hd2:decide ((hN=false∧nm.size≠0)∨(hT=false∧tx.size≠0)∨(hV=false∧vk≠0))with
        |true=>
         have HR:=zhd (show(8:Int)=r from by
          have h:=HR.o;rw[if_pos (znx hd2)]at h;exact h)
         go_wp2_with fail
         all_goals
          go_ret;exact⟨by rw[←HR.o];rfl,HB.o⟩
        |false=>
         have HR:=zhd (show cl=r from by
          have h:=HR.o;rw[if_neg (zny hd2)]at h;exact h)
         have CH:=zhd (HCK.o _ HB.o);go_wp2_with fail;refine CH.o.mono ?_;rintro e wv ⟨nv,rfl,hBv⟩;have HB:=zhd (HB.o.trans (hBv.mono HB.o.size));clear hBv;go_wp2_with fail
         all_goals
          go_ret;exact⟨by rw[←HR.o];rfl,HB.o⟩
 ·have HR:=zhd (show(9:Int)=r by rw[(ycY hk).1]at hr;exact hr)
  have NO:=zhd (ykL k hk w0);clear hr hk;go_enter Tryz.func34,Tryz.ntmps34;go_wp2_with fail;rw[←hw0];clear hw0;refine NO.o.mono ?_;rintro e w5 ⟨rfl,hB5⟩;have HB:=zhd (H0.o.1.trans (hB5.mono H0.o.1.size));clear hB5;go_wp2_with fail
  all_goals
   go_ret;exact⟨by rw[←HR.o];rfl,HB.o⟩
end Go.Proofs.YtpagmlndgblhhaaGreatDoor
namespace Go.Va
open Go.Own Go.RowKit
def yoY (l:List Ev):Prop:=∀(i:Nat) (e:Ev),l[i]? =some e→yaj e=0∧yaS e.kind=true∧(e.kind=1↔i=0)
end Go.Va
namespace Go.Proofs.YtpagmlndgblhhaaGreatDoor
open Go.RowKit Go.Own Go.Own.MapTy Go.Va Go.Sort
open Go.Own.Cells (sz enc)
set_option linter.unusedVariables false
theorem yo1 {W:World}(id t k a bb:Int)(nm tx:ByteArray)(x:Val)(vk vn:Int)(vs:ByteArray)(la:Option Addr)(ln lc:Nat)(F:Nat→Prop)(C:CF F W ⟨vk,vn,vs,la,ln,lc⟩ x)(hw:x.wf)(r:Int)(hr:yaj ⟨id,t,k,a,bb,nm,tx,x⟩=r):
  Calls Tryz.prog 34 #[.agg #[.int .i64 id,.int .i64 t,.int .i64 k,.int .i64 a,.int .i64 bb,.string nm,.string tx,.int .i64 vk,.int .i64 vn,.string vs,.slice la ln lc]] W (fun e w'=>e= .returned (.int .i64 r)∧Below W.heap.size W w'):=by
 have hvk:vk=x.kind:=C.kind;rw[yax]at hr;dsimp only at hr;rw[←hvk]at hr;exact ygy id t k a bb nm tx vk vn vs la ln lc x F W C hw r hr
end Go.Proofs.YtpagmlndgblhhaaGreatDoor
