/- Parts of the proof: what the functions and the plain laws give that later parts lean on. Conditions: none beyond those that each theorem names. -/
import Derived.Test.YtpagmlndgblhhaaGreatDoorR13
set_option maxRecDepth 100000
set_option maxHeartbeats 8000000
namespace Go.Proofs.YtpagmlndgblhhaaGreatDoor
open Go.RowKit Go.Own Go.Own.MapTy Go.Va Go.Sort
open Go.Own.Cells (sz enc)
def TT:MT:=⟨123,38,193,138,52⟩
def MP (Z:Nat→Prop)(W:World)(b:Nat)(v:MV)(p:Img)(r:Value)(s':MS)(e:Ending)(w':World):Prop:=∃v',e= .returned r∧Hid (MX TT Z w' b v' p s'∧MK b v W v' w')
def MPV (Z:Nat→Prop)(W:World)(b:Nat)(v:MV)(p:Img)(x:Val)(s':MS)(e:Ending)(w':World):Prop:=∃(v':MV) (c:VC),e= .returned (.agg #[.int .i64 c.kind,.int .i64 c.n,.string c.s,.slice c.la c.ln c.lc])∧Hid (MX TT Z w' b v' p s'∧MK b v W v' w'∧CF (MZ Z v' b) w' c x)
theorem yfj (t:ByteArray)(w:World):Calls Tryz.prog 32 #[.string t] w (fun e w'=>e= .returned (.agg #[.int .i64 2,.int .i64 0,.string t,.slice none 0 0])∧Below w.heap.size w w'):=by
 go_enter Tryz.func32,Tryz.ntmps32;go_wp2_with fail;exact zng (v:=.agg #[.int .i64 2,.int .i64 0,.string t,.slice none 0 0]) (by simp only[results,Tryz.results32];go_simp) rfl ⟨rfl,Keeps.below (S:=fun _=>False) (((Keeps.refl _ _).alloc _)) (znc _) (fun _ _ f=>f)⟩
theorem ybg (x:Bool)(w:World):Calls Tryz.prog 63 #[.bool x] w (fun e w'=>e= .returned (.agg #[.int .i64 1,.int .i64 (bif x then 1 else 0),.string ⟨#[]⟩,.slice none 0 0])∧Below w.heap.size w w'):=by
 have OF:=zhd (ya6 (bif x then 1 else 0));cases x
 all_goals
  simp only[znm,znl]at OF⊢;go_enter Tryz.func63,Tryz.ntmps63;go_wp2_with fail;refine(OF.o _).mono ?_;rintro e w5 ⟨rfl,hB5⟩;have b5:=(hB5.block w.heap.size (by simp)).trans (znb w _);have H5:=zhd (((znv w.heap.size w).alloc (znc _) (.cells #[.int .i64 0,.int .i64 0,.string ⟨#[]⟩,.slice none 0 0] 38)).trans (hB5.mono (by simp)));have f0:=fun o=>zfr b5 o;have l5:=zlt b5;have q:∀o,w5.cell? ⟨w.heap.size,o,none⟩=(#[.int .i64 0,.int .i64 0,.string ⟨#[]⟩,.slice none 0 0]:Array Value)[o]? :=fun o=>zch b5 _;have q0:=q 0;have q1:=q 1;have q2:=q 2;have q3:=q 3;simp only[zmc,zma,zmb]at q0 q1 q2 q3;clear q b5 hB5;go_wp2_with fail
 ·exact zng (v:=.agg #[.int .i64 1,.int .i64 0,.string ⟨#[]⟩,.slice none 0 0]) (by simp only[results,Tryz.results63];go_simp) rfl ⟨rfl,yhS H5.o _ _ _ _⟩
 ·exact zng (v:=.agg #[.int .i64 1,.int .i64 1,.string ⟨#[]⟩,.slice none 0 0]) (by simp only[results,Tryz.results63];go_simp) rfl ⟨rfl,yhS H5.o _ _ _ _⟩
theorem yhd (x:Val)(ck cn:Int)(cs:ByteArray)(la:Option Addr)(ln lc:Nat)(F:Nat→Prop)(w:World)(C:CF F w ⟨ck,cn,cs,la,ln,lc⟩ x)(r:Bool)(hr:ycp x=r):Calls Tryz.prog 158 #[.agg #[.int .i64 ck,.int .i64 cn,.string cs,.slice la ln lc]] w (fun e w'=>e= .returned (.bool r)∧Below w.heap.size w w'):=by
 have h1:ck=x.kind:=C.kind;have h2:cn=x.num:=C.n;have h3:cs=x.txt:=C.s;have h4:ln=x.list.length:=C.l.elem.1;unfold ycp at hr;rw[←h1,←h2,←h3,←h4]at hr;clear C h1 h2 h3 h4;by_cases k1:ck=1
 ·subst k1
  have hr:(cn !=0)=r:=hr;have HR:=zhd hr;cases hn:(cn !=0)with
  |true=>
   rw[hn]at hr;subst hr;clear HR;go_enter Tryz.func158,Tryz.ntmps158;go_wp2_with fail;go_ret;exact⟨rfl,zal⟩
  |false=>
   rw[hn]at hr;subst hr;clear HR;go_enter Tryz.func158,Tryz.ntmps158;go_wp2_with fail;go_ret;exact⟨rfl,zal⟩
 ·have e1:(ck==1)=false:=by rw[zna];exact k1
  rw[e1]at hr;simp only[znl]at hr;by_cases k2:ck=2
  ·subst k2
   have hr:(cs.size !=0)=r:=hr;have hq:cs.toList.isEmpty= !r:=by
    rw[←hr,zml];by_cases h0:cs.size=0
    ·have:cs.data.toList=[]:=List.length_eq_zero_iff.1 (by simpa using h0)
     rw[this,h0];rfl
    ·have e2:(cs.size !=0)=true:=by simpa using h0
     rw[e2,Bool.not_true,List.isEmpty_eq_false_iff];exact fun e=>h0 (by have:=congrArg List.length e;simpa using this)
   clear hr;go_enter Tryz.func158,Tryz.ntmps158;go_wp2_with fail;go_ret;exact⟨by first|rfl|(rw[←Bool.not_not r];rfl)|(simp;done),zal⟩
  ·have e2:(ck==2)=false:=by rw[zna];exact k2
   rw[e2]at hr;simp only[znl]at hr;by_cases k3:ck=3
   ·subst k3
    have hr:decide (0<ln)=r:=hr;have hq:decide ((0:Int)<(ln:Int))=r:=by rw[←hr];simp
    go_enter Tryz.func158,Tryz.ntmps158;go_wp2_with fail;go_ret;exact⟨by first|rfl|rw[hr]|rw[hq],zal⟩
   ·have e3:(ck==3)=false:=by rw[zna];exact k3
    rw[e3]at hr;have hr:false=r:=hr;subst hr;go_enter Tryz.func158,Tryz.ntmps158;go_wp2_with fail;go_ret;exact⟨rfl,zal⟩
theorem ykO {Z:Nat→Prop}{W wx w1:World}{b n g1 off1 cp cap:Nat}{a:Option Addr}{v:MV}{p:Img}{s:MS}{x:Val}{c z:VC}{ks:List VC}(M:MX TT Z W b v p s)(hv:v.ss= .slice a n cap)(hn:ks.length=n)(hP:Ptw (MZ Z v b) W ks s.stk)(C:CF (MZ Z v b) W c x)(B0:Below W.heap.size W wx)
  (hr:RowAt w1 38 (.slice (some ⟨g1,off1,none⟩) (n+1) cp) (ks++[z]))(hk:Keeps (fun j=>(Value.slice a n cap).ownBlock=some j) wx w1)(hf:∀g,(Value.slice (some ⟨g1,off1,none⟩) (n+1) cp).ownBlock=some g→(Value.slice a n cap).ownBlock=some g∨wx.heap.size≤g):
  MX TT Z (((((w1.setCell ⟨g1,off1+n*4,none⟩ (.int .i64 c.kind)).setCell ⟨g1,off1+n*4+1,none⟩ (.int .i64 c.n)).setCell ⟨g1,off1+n*4+2,none⟩ (.string c.s)).setCell ⟨g1,off1+n*4+3,none⟩ (.slice c.la c.ln c.lc)).setCell ⟨b,0,none⟩ (.slice (some ⟨g1,off1,none⟩) (n+1) cp)) b {v with ss:=.slice (some ⟨g1,off1,none⟩) (n+1) cp} p (s.push x)∧
  MK b v W {v with ss:=.slice (some ⟨g1,off1,none⟩) (n+1) cp} (((((w1.setCell ⟨g1,off1+n*4,none⟩ (.int .i64 c.kind)).setCell ⟨g1,off1+n*4+1,none⟩ (.int .i64 c.n)).setCell ⟨g1,off1+n*4+2,none⟩ (.string c.s)).setCell ⟨g1,off1+n*4+3,none⟩ (.slice c.la c.ln c.lc)).setCell ⟨b,0,none⟩ (.slice (some ⟨g1,off1,none⟩) (n+1) cp)):=by
 have hs:=hr.set (i:=n) (by simp;omega) c;have el:(ks++[z]).set n c=ks++[c]:=by
  rw[List.set_append_right _ _ (by omega),show n - ks.length=0 from by omega];rfl
 rw[el]at hs;have hs':RowAt ((((w1.setCell ⟨g1,off1+n*4,none⟩ (.int .i64 c.kind)).setCell ⟨g1,off1+n*4+1,none⟩ (.int .i64 c.n)).setCell ⟨g1,off1+n*4+2,none⟩ (.string c.s)).setCell ⟨g1,off1+n*4+3,none⟩ (.slice c.la c.ln c.lc)) 38 (.slice (some ⟨g1,off1,none⟩) (n+1) cp) (ks++[c]):=hs;have hg:(Value.slice a n cap).ownBlock=some g1∨wx.heap.size≤g1:=hf g1 rfl;have K4:Keeps (fun j=>(Value.slice a n cap).ownBlock=some j) wx ((((w1.setCell ⟨g1,off1+n*4,none⟩ (.int .i64 c.kind)).setCell ⟨g1,off1+n*4+1,none⟩ (.int .i64 c.n)).setCell ⟨g1,off1+n*4+2,none⟩ (.string c.s)).setCell ⟨g1,off1+n*4+3,none⟩ (.slice c.la c.ln c.lc)):=
  (((hk.setCell (p:=⟨g1,off1+n*4,none⟩) hg _).setCell (p:=⟨g1,off1+n*4+1,none⟩) hg _).setCell (p:=⟨g1,off1+n*4+2,none⟩) hg _).setCell (p:=⟨g1,off1+n*4+3,none⟩) hg _
 have K5:=(zkb (S:=fun _=>False) B0).mono (T:=fun j=>(Value.slice a n cap).ownBlock=some j) (fun _ _ f=>f.elim);have K6:=K5.trans K4 (fun _ _ e=>e);rw[←hv]at K6;exact M.putStk (s.push x) hs' (hP.app (Ptw.one C)) K6 (fun g hg=>by
  rw[hv];rcases hf g hg with h|h
  ·exact .inl h
  ·exact .inr (znf B0.size h)) rfl
theorem yah
  {Z:Nat→Prop}(b:Nat)(v:MV)(p:Img)(s:MS)(W:World)(M:MX TT Z W b v p s)
  (x:Val)(ck cn:Int)(cs:ByteArray)(la:Option Addr)(ln lc:Nat)(C:CF (MZ Z v b) W ⟨ck,cn,cs,la,ln,lc⟩ x)(hl:s.stk.length≤4294967296):
  Calls Tryz.prog 119 #[.pointer (some ⟨b,0,none⟩),.agg #[.int .i64 ck,.int .i64 cn,.string cs,.slice la ln lc]] W (MP Z W b v p (.tuple #[]) (s.push x)):=by
 obtain⟨ss,ic,ps,inp,ts,as_,ls,ms⟩:=v;obtain⟨a,cap,rfl⟩:∃a cap,ss= .slice a s.stk.length cap:=M.stk.slice;obtain⟨ks,hR,hP⟩:=M.stk.cells;obtain⟨wr,hwr⟩:∃wr,wr=W.alloc (.cells #[.int .i64 ck,.int .i64 cn,.string cs,.slice la ln lc] 38):=⟨_,rfl⟩;have hb:=zlt M.h;have B0:=zba hwr;have q:∀o,wr.cell? ⟨W.heap.size,o,none⟩=(#[.int .i64 ck,.int .i64 cn,.string cs,.slice la ln lc]:Array Value)[o]? :=fun o=>by rw[hwr,zch (znb _ _)]
 have q0:=q 0;have q1:=q 1;have q2:=q 2;have q3:=q 3;simp only[zmc,zma,zmb]at q0 q1 q2 q3;have lr:W.heap.size<wr.heap.size:=by rw[hwr];simp
 have b1:b<wr.heap.size:=by omega
 have c1:wr.cell? ⟨b,0,none⟩=some (.slice a s.stk.length cap):=(B0.cell (p:=⟨b,0,none⟩) hb).trans (M.cell (k:=0) rfl);have f0:∀o,wr.frozen? ⟨b,o,none⟩=false:=fun o=>(B0.frozen (p:=⟨b,o,none⟩) hb).trans (M.frozen o);have nb:∀g,(Value.slice a s.stk.length cap).ownBlock=some g→g≠b∧g≠W.heap.size:=fun g hg=>⟨fun e=>absurd (M.sep 1 0 g hg (by rw[e];rfl)) (by decide),fun e=>by have:=M.stk.lt hg;omega⟩;have HX:=zh5 M (hR.below B0) hP C B0;have NB:=zhd nb;have n6:¬W.heap.size=b:=by omega
 have hKL:=hP.1;have HBD:=zhd (show(ks.length+[(⟨0,0,⟨#[]⟩,none,0,0⟩:VC)].length)*56≤140737488355328∧ks.length+[(⟨0,0,⟨#[]⟩,none,0,0⟩:VC)].length≤maxLen∧ks.length+[(⟨0,0,⟨#[]⟩,none,0,0⟩:VC)].length=s.stk.length+1 from by unfold maxLen;simp;omega);have hix:(s.stk.length:Int)<(s.stk.length:Int)+1:=by omega
 have hi0:(0:Int)≤(s.stk.length:Int):=by omega
 have HKL:=zhd hKL;clear nb q hR hP C M B0 hKL;go_enter Tryz.func119,Tryz.ntmps119;go_wp2_with fail;rw[←hwr];clear hwr;go_region_law ((refine yaA (α:=VC) (o:=⟨some 11,_,_,_,_,_⟩) yfc (by rfl) (.tmp 7) (.tmp 10) (by rfl) (v:=.slice a s.stk.length cap) (u:=.slice (some ⟨wr.heap.size,0,none⟩) 1 1) (by rfl) (by rfl) (xs:=ks) (ys:=[⟨0,0,⟨#[]⟩,none,0,0⟩]) ((HX.o.2.1.drew).alloc _) (RowAt.lit (α:=VC) (y:=⟨0,0,⟨#[]⟩,none,0,0⟩) (znb _ _)) HBD.o.1 HBD.o.2.1 (s.stk.length+1) HBD.o.2.2 ?_;intro a1 cp w1 hr1 hk1 hf1;obtain⟨g1,off1,rfl,⟨m0,m1,m2,m3⟩,fm,ob,obf,oB,⟨n1,n2,n3,n4⟩,l1,l2,l3⟩:=yf6 (b:=b) (B:=W.heap.size) HKL.o hr1 hk1 hf1 b1 lr NB.o;have y1:=(ob 0).trans c1;have y2:=(oB 0).trans q0;have y3:=(oB 1).trans q1;have y4:=(oB 2).trans q2;have y5:=(oB 3).trans q3;have y6:=fun o=>(obf o).trans (f0 o);have FF:=zh3 hr1 hk1 hf1;clear hr1 hk1 hf1 ob obf oB))
 all_goals
  obtain⟨w4,hw4⟩:∃w4,w4=((((w1.setCell ⟨g1,off1+s.stk.length*4,none⟩ (.int .i64 ck)).setCell ⟨g1,off1+s.stk.length*4+1,none⟩ (.int .i64 cn)).setCell ⟨g1,off1+s.stk.length*4+2,none⟩ (.string cs)).setCell ⟨g1,off1+s.stk.length*4+3,none⟩ (.slice la ln lc)).setCell ⟨b,0,none⟩ (.slice (some ⟨g1,off1,none⟩) (s.stk.length+1) cp):=⟨_,rfl⟩;have hw5:w4=((((w1.setCell ⟨b,0,none⟩ (.slice (some ⟨g1,off1,none⟩) (s.stk.length+1) cp)).setCell ⟨g1,off1+s.stk.length*4,none⟩ (.int .i64 ck)).setCell ⟨g1,off1+s.stk.length*4+1,none⟩ (.int .i64 cn)).setCell ⟨g1,off1+s.stk.length*4+2,none⟩ (.string cs)).setCell ⟨g1,off1+s.stk.length*4+3,none⟩ (.slice la ln lc):=by rw[hw4,yaM n1,yaM n1,yaM n1,yaM n1]
  first
  |rw[←hw4]
  |rw[←hw5]
  have S:=ykO (c:=⟨ck,cn,cs,la,ln,lc⟩) (x:=x) HX.o.1 rfl HKL.o HX.o.2.2.1 HX.o.2.2.2.1 ((HX.o.2.2.2.2.drew).alloc (by have:=HX.o.2.2.2.2.size;exact this) _) FF.o.1 FF.o.2.1 FF.o.2.2;rw[←hw4]at S;have HS:=zhd S;clear S hw4 hw5 y1 y2 y3 y4 y5 y6 m0 m1 m2 m3 fm c1 f0 q0 q1 q2 q3;go_wp2_with fail
  go_end0
  exact⟨_,rfl,zhd HS.o⟩
theorem yjm {Z:Nat→Prop}{W wx wy:World}{b n cap:Nat}{a:Option Addr}{v:MV}{p:Img}{s:MS}{ks:List VC}{c:VC}{x:Val}(M:MX TT Z W b v p s)(hv:v.ss= .slice a n cap)(hn:s.stk.length=n)(hR:RowAt W 38 (.slice a n cap) ks)(hP:Ptw (MZ Z v b) W ks s.stk)(C:CF (MZ Z v b) W c x)
  (B0:Below W.heap.size W wx)(L:Keeps (fun j=>W.heap.size≤j) (wx.setCell ⟨b,0,none⟩ (.slice a (n - 1) (n - 1))) wy):
  MX TT Z wy b {v with ss:=.slice a (n - 1) (n - 1)} p s.pop∧MK b v W {v with ss:=.slice a (n - 1) (n - 1)} wy∧CF (MZ Z {v with ss:=.slice a (n - 1) (n - 1)} b) wy c x:=by
 have hkn:ks.length=n:=by rw[hP.1,hn]
 obtain⟨h1,h2⟩:=RowAt.pre3 hR (n:=n - 1) (by omega);have hP2:=hP.pop;rw[hkn]at hP2;have K0:=(zkb (S:=fun _=>False) B0).mono (T:=fun j=>v.ss.ownBlock=some j) (fun _ _ f=>f.elim);have hob:∀g,(Value.slice a (n - 1) (n - 1)).ownBlock=some g→v.ss.ownBlock=some g:=fun g hg=>by
  rw[hv];cases a with
  |none=>cases hg
  |some ad=>exact hg
 have S:=M.cut.putStk (v1:=.slice a (n - 1) (n - 1)) s.pop (h2.below B0) (hP2.mono (fun g h l=>⟨h.1,h.2,l⟩)) K0 (fun g hg=>.inl (hob g hg)) rfl;have hMK:=S.2.late L;refine⟨S.1.late (fun j hj=> ?_) L,hMK,C.step hMK⟩;rcases S.2.own j hj with h|h
 ·exact M.lt h
 ·rcases MO.turned (v:=v) (i0:=1) (fun i hi=>by
   match i with
   |0=>rfl
   |1=>exact absurd rfl hi
   |2=>rfl
   |3=>rfl
   |4=>rfl
   |5=>rfl
   |6=>rfl
   |_+7=>rfl) hj with h|h
  ·exact M.lt h
  ·exact M.lt ⟨1,hob j h⟩
theorem yag
  {Z:Nat→Prop}(b:Nat)(v:MV)(p:Img)(s:MS)(W:World)(M:MX TT Z W b v p s)
  :Calls Tryz.prog 159 #[.pointer (some ⟨b,0,none⟩)] W (MPV Z W b v p s.top s.pop):=by
 obtain⟨ss,ic,ps,inp,ts,as_,ls,ms⟩:=v;obtain⟨a,cap,rfl⟩:∃a cap,ss= .slice a s.stk.length cap:=M.stk.slice;obtain⟨ks,hR,hP⟩:=M.stk.cells;have b1:=zlt M.h;have c1:W.cell? ⟨b,0,none⟩=some (.slice a s.stk.length cap):=M.cell (k:=0) rfl;have f0:∀o,W.frozen? ⟨b,o,none⟩=false:=fun o=>M.frozen o;have HX:=zh3 M hR hP;by_cases h0:s.stk.length=0
 ·have hs:s.stk=[]:=List.length_eq_zero_iff.1 h0
  have ht:s.top=yai:=by unfold MS.top;rw[hs];rfl
  have hp:s.pop=s:=by unfold MS.pop;rw[hs];simp only[List.dropLast_nil];rw[←hs]
  have HT:=zh2 ht hp;have h0':((s.stk.length:Int)==0)=true:=by rw[beq_iff_eq];omega
  clear hs ht hp hR hP M h0;go_enter Tryz.func159,Tryz.ntmps159;go_wp2_with fail;exact zng (v:=.agg #[.int .i64 0,.int .i64 0,.string ⟨#[]⟩,.slice none 0 0]) (by simp only[results,Tryz.results159];go_simp) rfl ⟨_,⟨0,0,⟨#[]⟩,none,0,0⟩,rfl,zhd (by
   have B:Below W.heap.size W _:=(znv W.heap.size W).alloc (znc _) (.cells #[.int .i64 0,.int .i64 0,.string ⟨#[]⟩,.slice none 0 0] 38);rw[HT.o.1,HT.o.2];exact⟨HX.o.1.ext B,MK.ext B,yaD _ _⟩)⟩
 ·obtain⟨n,hn⟩:∃n,s.stk.length=n+1:=⟨s.stk.length - 1,by omega⟩
  obtain⟨x,hx⟩:=yad (l:=s.stk) (k:=n) (by omega);obtain⟨⟨ck,cn,cs,la,ln,lc⟩,hc,hC⟩:=hP.get hx;obtain⟨g,off,rfl,hg⟩:=hR.addr hc;have cc:=fun(j:Nat) (hj:j<4)=>hR.cell hc (j:=j) hj;have m0:W.cell? ⟨g,off+n*4,none⟩=some (.int .i64 ck):=cc 0 (by decide);have m1:W.cell? ⟨g,off+n*4+1,none⟩=some (.int .i64 cn):=by rw[zmm];exact cc 1 (by decide)
  have m2:W.cell? ⟨g,off+n*4+2,none⟩=some (.string cs):=by rw[zmm];exact cc 2 (by decide)
  have m3:W.cell? ⟨g,off+n*4+3,none⟩=some (.slice la ln lc):=by rw[zmm];exact cc 3 (by decide)
  have ht:s.top=x:=by
   unfold MS.top;rw[List.getLast?_eq_getElem?,show s.stk.length - 1=n from by omega,hx];rfl
  have HT:=zh3 ht hC hn;have nb:¬g=b:=fun e=>absurd (HX.o.1.sep 1 0 g rfl (by rw[e];rfl)) (by decide);rw[hn]at c1;have h0':(((n+1:Nat):Int)==0)=false:=by rw[zna];omega
  have hn63:(n:Int)<9223372036854775807:=by
   have hl:=hR.length_le;have:=hP.1;unfold maxLen at hl;omega
  have hw3:wrap64 (n:Int)=(n:Int):=by unfold wrap64;omega
  clear hn63;obtain⟨hsl,_⟩:=yj6 yfc (hn▸hR) (k:=n) (by have:=hP.1;omega);clear hC ht hc hx cc hR hP M hn;go_enter Tryz.func159,Tryz.ntmps159;go_wp2_with fail;exact zng (v:=.agg #[.int .i64 ck,.int .i64 cn,.string cs,.slice la ln lc]) (by simp only[results,Tryz.results159];go_simp) rfl ⟨_,⟨ck,cn,cs,la,ln,lc⟩,rfl,zhd (by
   have hR:=HX.o.2.1;rw[HT.o.2.2]at hR;rw[HT.o.1];exact yjm (n:=n+1) (x:=x) (wx:=W) HX.o.1 (by rw[HT.o.2.2]) HT.o.2.2 hR HX.o.2.2 HT.o.2.1 (znv _ _) ((((Keeps.refl (fun j=>W.heap.size≤j) _).alloc _).alloc _)))⟩
theorem ybA
  {Z:Nat→Prop}(b:Nat)(v:MV)(p:Img)(s:MS)(W:World)(M:MX TT Z W b v p s)
  :Calls Tryz.prog 160 #[.pointer (some ⟨b,0,none⟩)] W (MPV Z W b v p s.top s):=by
 obtain⟨ss,ic,ps,inp,ts,as_,ls,ms⟩:=v;obtain⟨a,cap,rfl⟩:∃a cap,ss= .slice a s.stk.length cap:=M.stk.slice;obtain⟨ks,hR,hP⟩:=M.stk.cells;have b1:=zlt M.h;have c1:W.cell? ⟨b,0,none⟩=some (.slice a s.stk.length cap):=M.cell (k:=0) rfl;have HX:=zh3 M hR hP;by_cases h0:s.stk.length=0
 ·have hs:s.stk=[]:=List.length_eq_zero_iff.1 h0
  have ht:s.top=yai:=by unfold MS.top;rw[hs];rfl
  have HT:=zhd ht;have h0':decide (0<s.stk.length)=false:=znd (by omega);have h1':¬0<s.stk.length:=by omega
  clear hs ht hR hP M h0;go_enter Tryz.func160,Tryz.ntmps160;go_wp2_with fail;exact zng (v:=.agg #[.int .i64 0,.int .i64 0,.string ⟨#[]⟩,.slice none 0 0]) (by simp only[results,Tryz.results160];go_simp) rfl ⟨_,⟨0,0,⟨#[]⟩,none,0,0⟩,rfl,zhd (by
   have B:Below W.heap.size W _:=(znv W.heap.size W).alloc (znc _) (.cells #[.int .i64 0,.int .i64 0,.string ⟨#[]⟩,.slice none 0 0] 38);rw[HT.o];exact⟨HX.o.1.ext B,MK.ext B,yaD _ _⟩)⟩
 ·obtain⟨n,hn⟩:∃n,s.stk.length=n+1:=⟨s.stk.length - 1,by omega⟩
  obtain⟨x,hx⟩:=yad (l:=s.stk) (k:=n) (by omega);obtain⟨⟨ck,cn,cs,la,ln,lc⟩,hc,hC⟩:=hP.get hx;obtain⟨g,off,rfl,hg⟩:=hR.addr hc;have cc:=fun(j:Nat) (hj:j<4)=>hR.cell hc (j:=j) hj;have m0:W.cell? ⟨g,off+n*4,none⟩=some (.int .i64 ck):=cc 0 (by decide);have m1:W.cell? ⟨g,off+n*4+1,none⟩=some (.int .i64 cn):=by rw[zmm];exact cc 1 (by decide)
  have m2:W.cell? ⟨g,off+n*4+2,none⟩=some (.string cs):=by rw[zmm];exact cc 2 (by decide)
  have m3:W.cell? ⟨g,off+n*4+3,none⟩=some (.slice la ln lc):=by rw[zmm];exact cc 3 (by decide)
  have ht:s.top=x:=by
   unfold MS.top;rw[List.getLast?_eq_getElem?,show s.stk.length - 1=n from by omega,hx];rfl
  have HT:=zh2 ht hC;rw[hn]at c1;have h0':decide ((0:Int)<((n:Int)+1))=true:=zno (by omega);have hn63:(n:Int)<9223372036854775807:=by
   have hl:=hR.length_le;have:=hP.1;unfold maxLen at hl;omega
  have hw3:wrap64 (n:Int)=(n:Int):=by unfold wrap64;omega
  clear hn63 hC ht hc hx cc hR hP M hn h0;go_enter Tryz.func160,Tryz.ntmps160;go_wp2_with fail;exact zng (v:=.agg #[.int .i64 ck,.int .i64 cn,.string cs,.slice la ln lc]) (by simp only[results,Tryz.results160];go_simp) rfl ⟨_,⟨ck,cn,cs,la,ln,lc⟩,rfl,zhd (by
   have B:Below W.heap.size W _:=(znv W.heap.size W).alloc (znc _) (.cells #[.int .i64 ck,.int .i64 cn,.string cs,.slice la ln lc] 38);rw[HT.o.1];exact⟨HX.o.1.ext B,MK.ext B,CF.step (MK.ext B) HT.o.2⟩)⟩
theorem yeu:ElemOf TC Tryz.prog 118 193 80:=yb0 Tryz.underlying118 (z:=.agg #[.int .i64 0,.bool false,.int .i64 0,.int .i64 0,.string .empty,.slice none 0 0,.int .i64 0]) (n:=7) (by kernel_rfl) rfl rfl
theorem yj2:ElemOf LC Tryz.prog 121 138 72:=yb0 Tryz.underlying121 (z:=.agg #[.string .empty,.int .i64 0,.int .i64 0,.string .empty,.slice none 0 0]) (n:=5) (by kernel_rfl) rfl rfl
theorem ylm:ElemOf CC Tryz.prog 41 52 104:=yb0 Tryz.underlying41 (z:=.agg #[.int .i64 0,.int .i64 0,.int .i64 0,.int .i64 0,.string .empty,.int .i64 0,.int .i64 0,.string .empty,.slice none 0 0]) (n:=9) (by kernel_rfl) rfl rfl
def ybv (id:Int)(l:List Th):Int:=match yat id l with|none=> -1|some i=>(i:Int)
def ltI (nm:ByteArray)(l:List Lt):Int:=match yap nm l with|none=> -1|some i=>(i:Int)
theorem yiB {id:Int}{l:List Th}{i:Nat}{x:Th}{r:Option Nat}(hx:l[i]? =some x)(hne:x.id≠id)(h:r=(yat id (l.drop i)).map (· +i)):r=(yat id (l.drop (i+1))).map (· +(i+1)):=by
 rw[h,ycK hx,yat,if_neg hne];cases yat id (l.drop (i+1))with
 |none=>rfl
 |some j=>show some (j+1+i)=some (j+(i+1));congr 1;omega
theorem yiC {id:Int}{l:List Th}{i:Nat}{x:Th}{r:Option Nat}(hx:l[i]? =some x)(he:x.id=id)(h:r=(yat id (l.drop i)).map (· +i)):r=some i:=by
 rw[h,ycK hx,yat,if_pos he];show some (0+i)=some i;rw[Nat.zero_add]
theorem ygM {id:ByteArray}{l:List Lt}{i:Nat}{x:Lt}{r:Option Nat}(hx:l[i]? =some x)(hne:x.name≠id)(h:r=(yap id (l.drop i)).map (· +i)):r=(yap id (l.drop (i+1))).map (· +(i+1)):=by
 rw[h,ycK hx,yap,if_neg hne];cases yap id (l.drop (i+1))with
 |none=>rfl
 |some j=>show some (j+1+i)=some (j+(i+1));congr 1;omega
theorem ygN {id:ByteArray}{l:List Lt}{i:Nat}{x:Lt}{r:Option Nat}(hx:l[i]? =some x)(he:x.name=id)(h:r=(yap id (l.drop i)).map (· +i)):r=some i:=by
 rw[h,ycK hx,yap,if_pos he];show some (0+i)=some i;rw[Nat.zero_add]
theorem yhy {r:Option Nat}:r=r.map (· +0):=by cases r<;>rfl
def yoJ (W:World)(id:Int)(l:List Th)(gk:Nat)(v11:Value)(wr:World):Prop:=
 ∃i:Nat,v11= .int .i64 i∧i≤l.length∧gk=l.length - i∧yat id l=(yat id (l.drop i)).map (· +i)∧wr=W
theorem yaN (b o:Nat)(id:Int)(l:List Th)(a:Option Addr)(cap:Nat)(F:Nat→Prop)(W:World)(c0:W.cell? ⟨b,o,none⟩=some (.slice a l.length cap))(H:XRow F W 193 (.slice a l.length cap) l)(hb:b<W.heap.size)(r:Int)(hr:ybv id l=r):
  Calls Tryz.prog 138 #[.pointer (some ⟨b,o,none⟩),.int .i64 id] W (fun e w'=>e= .returned (.int .i64 r)∧w'=W):=by
 have hlm:l.length≤maxLen:=by
  obtain⟨cs,h1,h2,_⟩:=H;rw[←h2];exact h1.length_le
 have HR:=zh2 H hr;clear H hr;go_enter Tryz.func138,Tryz.ntmps138;go_wp2_with fail;go_loopg [11] (l.length) (fun gk v11 wr=>yoJ W id l gk v11 wr)
 case atStart=>exact⟨0,rfl,znq _,rfl,yhy,rfl⟩
 case round=>
  obtain⟨i,rfl,hi,hgk,hf,rfl⟩:=hrel;by_cases hin:i<l.length
  ·obtain⟨x,hx⟩:=yad hin
   obtain⟨g,off,c,rfl,hg,hc,_,hcs⟩:=HR.o.1.at_ hx;have m0:=hcs 0 _ rfl;have hci:c.id=x.id:=hc.id;rw[hci]at m0;simp only[sz,Nat.add_zero]at m0;have hin':(i:Int)<l.length:=by omega
   have HM:=zhd (show l.length - (i+1)<gk from by omega);have HW:=zhd (show wrap64 ((i:Int)+1)=(i:Int)+1 from by unfold maxLen at hlm;unfold wrap64;omega);have hi1:i+1≤l.length:=by omega
   by_cases he:x.id=id
   ·have heb:(x.id==id)=true:=by rw[beq_iff_eq];exact he
    have hr:=HR.o.2;unfold ybv at hr;rw[yiC hx he hf]at hr;have hr:(i:Int)=r:=hr;subst hr;clear hf hcs hc hci hgk he;go_wp2_with fail;go_ret;exact⟨rfl,rfl⟩
   ·have heb:(x.id==id)=false:=by rw[zna];exact he
    have HF:=zhd (yiB hx he hf);clear hf hcs hc hci hgk he;go_wp2_with fail;go_roundg (l.length - (i+1))
    case measure=>exact HM.o
    case rel=>exact⟨i+1,by rw[HW.o];simp,hi1,rfl,HF.o,rfl⟩
  ·have hin':¬(i:Int)<l.length:=by omega
   have hr:=HR.o.2;unfold ybv at hr;rw[hf,zns (by omega)]at hr;have hr:(-1:Int)=r:=hr;subst hr;clear hf hgk;go_wp2_with fail;go_ret;exact⟨rfl,rfl⟩
theorem yf0
  {Z:Nat→Prop}(b:Nat)(v:MV)(p:Img)(s:MS)(W:World)(M:MX TT Z W b v p s)
  (hn:0≤s.timers.next∧s.timers.next≤4611686018427387904)(hl:s.timers.list.length≤4294967296)(s':MS)(hs':s'={s with timers:=yb2 s.timers}):
  Calls Tryz.prog 180 #[.pointer (some ⟨b,12,none⟩)] W (MP Z W b v p (.int .i64 (s.timers.next+1)) s'):=by
 obtain⟨ss,ic,ps,inp,ts,as_,ls,ms⟩:=v;obtain⟨a,cap,rfl⟩:∃a cap,ts= .slice a s.timers.list.length cap:=M.tms.slice;obtain⟨k,hk⟩:∃k,s.timers.next=k:=⟨_,rfl⟩;have hw:wrap64 (k+1)=k+1:=by unfold wrap64;omega
 have b0:=zlt M.h;have c1:W.cell? ⟨b,12+1,none⟩=some (.int .i64 k):=by rw[←hk];exact M.cell (k:=12+1) rfl
 have f0:∀o,W.frozen? ⟨b,o,none⟩=false:=fun o=>M.frozen o;have S1:=M.scalar (12+1) (.int .i64 (k+1)) {s with timers:=⟨s.timers.list,k+1⟩} rfl rfl rfl rfl rfl rfl rfl rfl;have HX:=zh5 S1 hs' hk hl hn;clear S1 M hs' hk hl hn;go_enter Tryz.func180,Tryz.ntmps180;go_wp2_with fail;obtain⟨wr,hwr⟩:∃wr,wr=W.setCell ⟨b,12+1,none⟩ (.int .i64 (k+1)):=⟨_,rfl⟩;have HY:=zh2 (hwr▸HX.o.1.1) (hwr▸HX.o.1.2);rw[←hwr];clear hwr c1 f0 b0;have c0:wr.cell? ⟨b,12,none⟩=some (.slice a s.timers.list.length cap):=HY.o.1.cell (k:=12) rfl;have c1:wr.cell? ⟨b,12+1,none⟩=some (.int .i64 (k+1)):=HY.o.1.cell (k:=12+1) rfl;have f0:∀o,wr.frozen? ⟨b,o,none⟩=false:=fun o=>HY.o.1.frozen o;have b1:=zlt HY.o.1.h;obtain⟨ks,hR,hP⟩:=HY.o.1.tms.cells;have hKL:ks.length=s.timers.list.length:=hP.1;have HK:=zh2 hR hP;have NB:=zhd (show∀g,(Value.slice a s.timers.list.length cap).ownBlock=some g→g≠b from fun g hg e=>absurd (HY.o.1.sep 3 0 g hg (by rw[e];rfl)) (by decide))
 have HBD:=zhd (show(ks.length+[(⟨k+1,false,⟨0,0,⟨#[]⟩,none,0,0⟩,0⟩:TC)].length)*80≤140737488355328∧ks.length+[(⟨k+1,false,⟨0,0,⟨#[]⟩,none,0,0⟩,0⟩:TC)].length≤maxLen∧ks.length+[(⟨k+1,false,⟨0,0,⟨#[]⟩,none,0,0⟩,0⟩:TC)].length=s.timers.list.length+1 from by have:=HX.o.2.2.2.1;unfold maxLen;simp;omega);clear hR hP hKL;go_region_law ((refine yaA (α:=TC) (o:=⟨some 21,_,_,_,_,_⟩) yeu (by rfl) (.tmp 14) (.tmp 20) (by rfl) (v:=.slice a s.timers.list.length cap) (u:=.slice (some ⟨wr.heap.size,0,none⟩) 1 1) (by rfl) (by rfl) (xs:=ks) (ys:=[⟨k+1,false,⟨0,0,⟨#[]⟩,none,0,0⟩,0⟩]) ((HK.o.1.drew).alloc _) (RowAt.lit (α:=TC) (y:=⟨k+1,false,⟨0,0,⟨#[]⟩,none,0,0⟩,0⟩) (znb _ _)) HBD.o.1 HBD.o.2.1 (s.timers.list.length+1) HBD.o.2.2 ?_;intro a1 cp w1 hr1 hk1 hf1;have hb1:=(hk1.block b (by simp;omega) (fun e=>NB.o _ e rfl)).trans ((zne _ _ _ b1).trans HY.o.1.h);have y0:w1.cell? ⟨b,12,none⟩=some (.slice a s.timers.list.length cap):=(by rw[zch hb1];rfl);have y1:∀o,w1.frozen? ⟨b,o,none⟩=false:=(fun o=>zfr hb1 o);have y2:b<w1.heap.size:=zlt hb1;have FF:=zh3 hr1 hk1 hf1;clear hr1 hk1 hf1 hb1))
 all_goals
  have B1:Below wr.heap.size wr (wr.drew.alloc (.cells (enc (⟨k+1,false,⟨0,0,⟨#[]⟩,none,0,0⟩,0⟩:TC)).toArray 193)):=((znv wr.heap.size wr).drew).alloc (znc _) _;have S:=HY.o.1.putTms (v1:=.slice a1 (s.timers.list.length+1) cp) s' FF.o.1 (HK.o.2.app (Ptw.one (x:=⟨k+1,false,yai,0⟩) ⟨rfl,rfl,yaD _ _,rfl⟩)) (((zkb (S:=fun _=>False) B1).mono (fun _ _ f=>f.elim)).trans FF.o.2.1 (fun _ _ e=>e)) (fun g hg=>(FF.o.2.2 g hg).imp id (fun h=>znf B1.size h)) (by rw[HX.o.2.1];unfold yb2;rw[HX.o.2.2.1];rfl);obtain⟨wz,hwz⟩:∃wz,wz=w1.setCell ⟨b,12,none⟩ (.slice a1 (s.timers.list.length+1) cp):=⟨_,rfl⟩;rw[←hwz]at S⊢;have HS:=zhd S;have d1:wz.cell? ⟨b,12+1,none⟩=some (.int .i64 (k+1)):=by
   have:=S.1.cell (k:=12+1) (u:=.int .i64 s'.timers.next) rfl;rw[this,HX.o.2.1,←HX.o.2.2.1];rfl
  have bz:=zlt S.1.h;have fz:∀o,wz.frozen? ⟨b,o,none⟩=false:=fun o=>S.1.frozen o;clear S hwz y0 y1 y2 c0 c1 f0 B1;go_wp2_with fail;go_ret;exact⟨_,by rw[HX.o.2.2.1];rfl,zhd ⟨HS.o.1,HY.o.2.trans HS.o.2⟩⟩
theorem yf1
  {Z:Nat→Prop}(b:Nat)(v:MV)(p:Img)(s:MS)(W:World)(M:MX TT Z W b v p s)
  (hn:0≤s.acts.next∧s.acts.next≤4611686018427387904)(hl:s.acts.list.length≤4294967296)(s':MS)(hs':s'={s with acts:=yb2 s.acts}):
  Calls Tryz.prog 180 #[.pointer (some ⟨b,14,none⟩)] W (MP Z W b v p (.int .i64 (s.acts.next+1)) s'):=by
 obtain⟨ss,ic,ps,inp,ts,as_,ls,ms⟩:=v;obtain⟨a,cap,rfl⟩:∃a cap,as_= .slice a s.acts.list.length cap:=M.acs.slice;obtain⟨k,hk⟩:∃k,s.acts.next=k:=⟨_,rfl⟩;have hw:wrap64 (k+1)=k+1:=by unfold wrap64;omega
 have b0:=zlt M.h;have c1:W.cell? ⟨b,14+1,none⟩=some (.int .i64 k):=by rw[←hk];exact M.cell (k:=14+1) rfl
 have f0:∀o,W.frozen? ⟨b,o,none⟩=false:=fun o=>M.frozen o;have S1:=M.scalar (14+1) (.int .i64 (k+1)) {s with acts:=⟨s.acts.list,k+1⟩} rfl rfl rfl rfl rfl rfl rfl rfl;have HX:=zh5 S1 hs' hk hl hn;clear S1 M hs' hk hl hn;go_enter Tryz.func180,Tryz.ntmps180;go_wp2_with fail;obtain⟨wr,hwr⟩:∃wr,wr=W.setCell ⟨b,14+1,none⟩ (.int .i64 (k+1)):=⟨_,rfl⟩;have HY:=zh2 (hwr▸HX.o.1.1) (hwr▸HX.o.1.2);rw[←hwr];clear hwr c1 f0 b0;have c0:wr.cell? ⟨b,14,none⟩=some (.slice a s.acts.list.length cap):=HY.o.1.cell (k:=14) rfl;have c1:wr.cell? ⟨b,14+1,none⟩=some (.int .i64 (k+1)):=HY.o.1.cell (k:=14+1) rfl;have f0:∀o,wr.frozen? ⟨b,o,none⟩=false:=fun o=>HY.o.1.frozen o;have b1:=zlt HY.o.1.h;obtain⟨ks,hR,hP⟩:=HY.o.1.acs.cells;have hKL:ks.length=s.acts.list.length:=hP.1;have HK:=zh2 hR hP;have NB:=zhd (show∀g,(Value.slice a s.acts.list.length cap).ownBlock=some g→g≠b from fun g hg e=>absurd (HY.o.1.sep 4 0 g hg (by rw[e];rfl)) (by decide))
 have HBD:=zhd (show(ks.length+[(⟨k+1,false,⟨0,0,⟨#[]⟩,none,0,0⟩,0⟩:TC)].length)*80≤140737488355328∧ks.length+[(⟨k+1,false,⟨0,0,⟨#[]⟩,none,0,0⟩,0⟩:TC)].length≤maxLen∧ks.length+[(⟨k+1,false,⟨0,0,⟨#[]⟩,none,0,0⟩,0⟩:TC)].length=s.acts.list.length+1 from by have:=HX.o.2.2.2.1;unfold maxLen;simp;omega);clear hR hP hKL;go_region_law ((refine yaA (α:=TC) (o:=⟨some 21,_,_,_,_,_⟩) yeu (by rfl) (.tmp 14) (.tmp 20) (by rfl) (v:=.slice a s.acts.list.length cap) (u:=.slice (some ⟨wr.heap.size,0,none⟩) 1 1) (by rfl) (by rfl) (xs:=ks) (ys:=[⟨k+1,false,⟨0,0,⟨#[]⟩,none,0,0⟩,0⟩]) ((HK.o.1.drew).alloc _) (RowAt.lit (α:=TC) (y:=⟨k+1,false,⟨0,0,⟨#[]⟩,none,0,0⟩,0⟩) (znb _ _)) HBD.o.1 HBD.o.2.1 (s.acts.list.length+1) HBD.o.2.2 ?_;intro a1 cp w1 hr1 hk1 hf1;have hb1:=(hk1.block b (by simp;omega) (fun e=>NB.o _ e rfl)).trans ((zne _ _ _ b1).trans HY.o.1.h);have y0:w1.cell? ⟨b,14,none⟩=some (.slice a s.acts.list.length cap):=(by rw[zch hb1];rfl);have y1:∀o,w1.frozen? ⟨b,o,none⟩=false:=(fun o=>zfr hb1 o);have y2:b<w1.heap.size:=zlt hb1;have FF:=zh3 hr1 hk1 hf1;clear hr1 hk1 hf1 hb1))
 all_goals
  have B1:Below wr.heap.size wr (wr.drew.alloc (.cells (enc (⟨k+1,false,⟨0,0,⟨#[]⟩,none,0,0⟩,0⟩:TC)).toArray 193)):=((znv wr.heap.size wr).drew).alloc (znc _) _;have S:=HY.o.1.putAcs (v1:=.slice a1 (s.acts.list.length+1) cp) s' FF.o.1 (HK.o.2.app (Ptw.one (x:=⟨k+1,false,yai,0⟩) ⟨rfl,rfl,yaD _ _,rfl⟩)) (((zkb (S:=fun _=>False) B1).mono (fun _ _ f=>f.elim)).trans FF.o.2.1 (fun _ _ e=>e)) (fun g hg=>(FF.o.2.2 g hg).imp id (fun h=>znf B1.size h)) (by rw[HX.o.2.1];unfold yb2;rw[HX.o.2.2.1];rfl);obtain⟨wz,hwz⟩:∃wz,wz=w1.setCell ⟨b,14,none⟩ (.slice a1 (s.acts.list.length+1) cp):=⟨_,rfl⟩;rw[←hwz]at S⊢;have HS:=zhd S;have d1:wz.cell? ⟨b,14+1,none⟩=some (.int .i64 (k+1)):=by
   have:=S.1.cell (k:=14+1) (u:=.int .i64 s'.acts.next) rfl;rw[this,HX.o.2.1,←HX.o.2.2.1];rfl
  have bz:=zlt S.1.h;have fz:∀o,wz.frozen? ⟨b,o,none⟩=false:=fun o=>S.1.frozen o;clear S hwz y0 y1 y2 c0 c1 f0 B1;go_wp2_with fail;go_ret;exact⟨_,by rw[HX.o.2.2.1];rfl,zhd ⟨HS.o.1,HY.o.2.trans HS.o.2⟩⟩
theorem ypd {w5:World}{B:Nat}{k t t' a b:Int}{nm:ByteArray}{c c':VC}{T:TypeId}(h:w5.heap[B]? =some (.cells #[.int .i64 k,.int .i64 t,.int .i64 a,.int .i64 b,.string nm,.int .i64 c.kind,.int .i64 c.n,.string c.s,.slice c.la c.ln c.lc] T (0,0))):
  (((((w5.setCell ⟨B,1,none⟩ (.int .i64 t')).setCell ⟨B,5,none⟩ (.int .i64 c'.kind)).setCell ⟨B,6,none⟩ (.int .i64 c'.n)).setCell ⟨B,7,none⟩ (.string c'.s)).setCell ⟨B,8,none⟩ (.slice c'.la c'.ln c'.lc)).heap[B]? =some (.cells #[.int .i64 k,.int .i64 t',.int .i64 a,.int .i64 b,.string nm,.int .i64 c'.kind,.int .i64 c'.n,.string c'.s,.slice c'.la c'.ln c'.lc] T (0,0)):=by
 simp[World.setCell,zni,h]
theorem ylf (w':World)(b:Nat)(v1 v2 v3 v4 v5:Value):
  Keeps (fun j=>j=b) w' (((((w'.setCell ⟨b,1,none⟩ v1).setCell ⟨b,5,none⟩ v2).setCell ⟨b,6,none⟩ v3).setCell ⟨b,7,none⟩ v4).setCell ⟨b,8,none⟩ v5):=by
 have k0:Keeps (fun j=>j=b) w' w':=Keeps.refl _ _;have k1:=Keeps.setCell (p:=⟨b,1,none⟩) k0 (.inl rfl) v1;have k2:=Keeps.setCell (p:=⟨b,5,none⟩) k1 (.inl rfl) v2;have k3:=Keeps.setCell (p:=⟨b,6,none⟩) k2 (.inl rfl) v3;have k4:=Keeps.setCell (p:=⟨b,7,none⟩) k3 (.inl rfl) v4;exact Keeps.setCell (p:=⟨b,8,none⟩) k4 (.inl rfl) v5
theorem ybS
  {Z:Nat→Prop}(b:Nat)(v:MV)(p:Img)(s:MS)(W:World)(M:MX TT Z W b v p s)
  (k t a c:Int)(nm:ByteArray)(x:Val)(vk vn:Int)(vs:ByteArray)(la:Option Addr)(ln lc:Nat)(F:Nat→Prop)(C:CF F W ⟨vk,vn,vs,la,ln,lc⟩ x)(hz:szV x≤1073741824)(hl:s.made.length≤4294967296)(hZ:∀j,W.heap.size≤j→Z j)
  (s':MS)(hs':s.want ⟨k,t,a,c,nm,x⟩=s'):
  Calls Tryz.prog 179 #[.pointer (some ⟨b,0,none⟩),.agg #[.int .i64 k,.int .i64 t,.int .i64 a,.int .i64 c,.string nm,.int .i64 vk,.int .i64 vn,.string vs,.slice la ln lc]] W (MP Z W b v p (.tuple #[]) s'):=by
 obtain⟨ss,ic,ps,inp,ts,as_,ls,ms⟩:=v;obtain⟨am,cap,rfl⟩:∃a cap,ms= .slice a s.made.length cap:=M.mds.slice;have hb:=zlt M.h;obtain⟨w0,hw0⟩:∃w0,w0=W.alloc (.cells #[.int .i64 k,.int .i64 t,.int .i64 a,.int .i64 c,.string nm,.int .i64 vk,.int .i64 vn,.string vs,.slice la ln lc] 52):=⟨_,rfl⟩;have B0:=zba hw0;have hB:=zha hw0;have q0:=zca hB 0 rfl;have q1:=zca hB 1 rfl;have q5:=zca hB 5 rfl;have q6:=zca hB 6 rfl;have q7:=zca hB 7 rfl;have q8:=zca hB 8 rfl;have qf:∀o,w0.frozen? ⟨W.heap.size,o,none⟩=false:=fun o=>zfr hB o;have lr:W.heap.size<w0.heap.size:=zlt hB;have b1:b<w0.heap.size:=by omega
 have M0:=M.ext B0;have c11:w0.cell? ⟨b,11,none⟩=some (.int .i64 s.now):=M0.cell (k:=11) rfl;have nbB:¬W.heap.size=b:=by omega
 have CL:=zhd (yav x vk vn vs la ln lc F w0.drew (C.keep (S:=fun _=>False) (zkb B0.drew) (fun _ _ f=>f)) hz);have HX:=zh7 M B0 hB hs' hl hZ hb;clear M B0 hB hs' hl hZ hb C M0;go_enter Tryz.func179,Tryz.ntmps179;go_wp2_with fail;rw[←hw0];clear hw0;go_region_law ((go_simp;go_at_call 58;refine CL.o.mono ?_;rintro e w5 ⟨⟨k8,n8,s8,la8,ln8,lc8⟩,rfl,hC8⟩;have B5:Below w0.heap.size w0 w5:=znw ((znv w0.heap.size w0).drew) hC8.o.2;have hB5:=(B5.block W.heap.size lr).trans HX.o.2.2.1;have r1:w5.cell? ⟨W.heap.size,1,none⟩=some (.int .i64 t):=(by rw[zch hB5];rfl);have r5:w5.cell? ⟨W.heap.size,5,none⟩=some (.int .i64 vk):=(by rw[zch hB5];rfl);have r6:w5.cell? ⟨W.heap.size,6,none⟩=some (.int .i64 vn):=(by rw[zch hB5];rfl);have r7:w5.cell? ⟨W.heap.size,7,none⟩=some (.string vs):=(by rw[zch hB5];rfl);have r8:w5.cell? ⟨W.heap.size,8,none⟩=some (.slice la ln lc):=(by rw[zch hB5];rfl);have rf:∀o,w5.frozen? ⟨W.heap.size,o,none⟩=false:=(fun o=>zfr hB5 o);have rl:=zlt hB5;have c12:=(B5.cell (p:=⟨b,11,none⟩) b1).trans c11;have H5:=zh3 hC8.o.1 B5 hB5;clear hC8 B5 hB5))
 all_goals
  obtain⟨w6,hw6⟩:∃w6,w6=(((((w5.setCell ⟨W.heap.size,1,none⟩ (.int .i64 s.now)).setCell ⟨W.heap.size,5,none⟩ (.int .i64 k8)).setCell ⟨W.heap.size,6,none⟩ (.int .i64 n8)).setCell ⟨W.heap.size,7,none⟩ (.string s8)).setCell ⟨W.heap.size,8,none⟩ (.slice la8 ln8 lc8)):=⟨_,rfl⟩;rw[←hw6];have hB6:w6.heap[W.heap.size]? =some (.cells #[.int .i64 k,.int .i64 s.now,.int .i64 a,.int .i64 c,.string nm,.int .i64 k8,.int .i64 n8,.string s8,.slice la8 ln8 lc8] 52 (0,0)):=by rw[hw6];exact ypd (c':=⟨k8,n8,s8,la8,ln8,lc8⟩) (c:=⟨vk,vn,vs,la,ln,lc⟩) H5.o.2.2
  have K56:Keeps (fun j=>j=W.heap.size) w5 w6:=by rw[hw6];exact ylf _ _ _ _ _ _ _
  have K6:Keeps (fun j=>W.heap.size≤j) W w6:=((zkb (S:=fun _=>False) (HX.o.2.1.trans (H5.o.2.1.mono HX.o.2.1.size))).mono (fun _ _ f=>f.elim)).trans K56 (fun j _ e=>Nat.le_of_eq e.symm);have M6:=HX.o.1.cut.late (fun j h=>HX.o.1.lt h) K6;have KM6:=(MK.refl b ⟨ss,ic,ps,inp,ts,as_,ls,.slice am s.made.length cap⟩ W).late K6;have C6:CF (MZ Z ⟨ss,ic,ps,inp,ts,as_,ls,.slice am s.made.length cap⟩ b) w6 ⟨k8,n8,s8,la8,ln8,lc8⟩ (yab x):=((H5.o.1.keep K56 (fun g hg e=>by have hg:w0.heap.size≤g:=hg;have e:g=W.heap.size:=e;omega))).mono (fun g hg _=>by
   have hg:w0.heap.size≤g:=hg;exact⟨fun e=>by have:=HX.o.1.lt e;omega,HX.o.2.2.2.2.2.1 g (by omega)⟩)
  obtain⟨ks,hR,hP⟩:=M6.mds.cells;have hKL:ks.length=s.made.length:=hP.1;have HY:=zh6 M6 KM6 C6 hB6 hR hP;have HBD:=zhd (show(ks.length+[(⟨k,s.now,a,c,nm,⟨k8,n8,s8,la8,ln8,lc8⟩⟩:CC)].length)*104≤140737488355328∧ks.length+[(⟨k,s.now,a,c,nm,⟨k8,n8,s8,la8,ln8,lc8⟩⟩:CC)].length≤maxLen∧ks.length+[(⟨k,s.now,a,c,nm,⟨k8,n8,s8,la8,ln8,lc8⟩⟩:CC)].length=s.made.length+1 from by have:=HX.o.2.2.2.2.1;unfold maxLen;simp;omega);have NB:=zhd (show∀g,(Value.slice am s.made.length cap).ownBlock=some g→g≠b∧g≠W.heap.size from fun g hg=>⟨fun e=>absurd (HX.o.1.sep 6 0 g hg (by rw[e];rfl)) (by decide),fun e=>by have:=HX.o.1.mds.lt hg;omega⟩);have lz:W.heap.size<w6.heap.size:=zlt hB6;have b6:b<w6.heap.size:=by have:=HX.o.2.2.2.2.2.2;omega
  have q0:=zca hB6 0 rfl;have q1:=zca hB6 1 rfl;have q2:=zca hB6 2 rfl;have q3:=zca hB6 3 rfl;have q4:=zca hB6 4 rfl;have q5:=zca hB6 5 rfl;have q6:=zca hB6 6 rfl;have q7:=zca hB6 7 rfl;have q8:=zca hB6 8 rfl;have d21:w6.cell? ⟨b,21,none⟩=some (.slice am s.made.length cap):=M6.cell (k:=21) rfl;have df:∀o,w6.frozen? ⟨b,o,none⟩=false:=fun o=>M6.frozen o;clear M6 KM6 C6 hB6 hR hP hKL K56 K6 hw6 r1 r5 r6 r7 r8 rf c12 c11 rl lr b1 qf;go_wp2_with fail
  go_region_law ((refine yaA (α:=CC) (o:=⟨some 20,_,_,_,_,_⟩) ylm (by rfl) (.tmp 17) (.tmp 19) (by rfl) (v:=.slice am s.made.length cap) (u:=.slice (some ⟨w6.heap.size,0,none⟩) 1 1) (by rfl) (by rfl) (xs:=ks) (ys:=[⟨k,s.now,a,c,nm,⟨k8,n8,s8,la8,ln8,lc8⟩⟩]) ((HY.o.2.2.2.2.1.drew).alloc _) (RowAt.lit (α:=CC) (y:=⟨k,s.now,a,c,nm,⟨k8,n8,s8,la8,ln8,lc8⟩⟩) (znb _ _)) HBD.o.1 HBD.o.2.1 (s.made.length+1) HBD.o.2.2 ?_;intro a1 cp w7 hr1 hk1 hf1;have hb1:=(hk1.block b (by simp;omega) (fun e=>(NB.o _ e).1 rfl)).trans ((zne _ _ _ b6).trans HY.o.1.h);have hz1:=(hk1.block W.heap.size (by simp;omega) (fun e=>(NB.o _ e).2 rfl)).trans ((zne _ _ _ lz).trans HY.o.2.2.2.1);have y0:w7.cell? ⟨b,21,none⟩=some (.slice am s.made.length cap):=(by rw[zch hb1];rfl);have y1:∀o,w7.frozen? ⟨b,o,none⟩=false:=(fun o=>zfr hb1 o);have y2:b<w7.heap.size:=zlt hb1;have FF:=zh4 hr1 hk1 hf1 hz1;clear hr1 hk1 hf1 hb1 hz1))
  all_goals
   have B1:Below w6.heap.size w6 (w6.drew.alloc (.cells (enc (⟨k,s.now,a,c,nm,⟨k8,n8,s8,la8,ln8,lc8⟩⟩:CC)).toArray 52)):=((znv w6.heap.size w6).drew).alloc (znc _) _;have S:=HY.o.1.putMds (v1:=.slice a1 (s.made.length+1) cp) {s with made:=s.made++[⟨k,s.now,a,c,nm,yab x⟩]} FF.o.1 (HY.o.2.2.2.2.2.app (Ptw.one (x:=⟨k,s.now,a,c,nm,yab x⟩) ⟨rfl,rfl,rfl,rfl,rfl,HY.o.2.2.1⟩)) (((zkb (S:=fun _=>False) B1).mono (fun _ _ f=>f.elim)).trans FF.o.2.1 (fun _ _ e=>e)) (fun g hg=>(FF.o.2.2.1 g hg).imp id (fun h=>znf B1.size h)) rfl;obtain⟨wz,hwz⟩:∃wz,wz=w7.setCell ⟨b,21,none⟩ (.slice a1 (s.made.length+1) cp):=⟨_,rfl⟩;rw[←hwz]at S⊢;have hzb:wz.heap[W.heap.size]? =some (.cells #[.int .i64 k,.int .i64 s.now,.int .i64 a,.int .i64 c,.string nm,.int .i64 k8,.int .i64 n8,.string s8,.slice la8 ln8 lc8] 52 (0,0)):=by
    rw[hwz,znn _ _ _ _ (fun e=>by have e:W.heap.size=b:=e;have:=HX.o.2.2.2.2.2.2;omega)];exact FF.o.2.2.2
   have z0:=zca hzb 0 rfl;have zl:=zlt hzb;have d19:wz.cell? ⟨b,19,none⟩=some (.bool s.over):=S.1.cell (k:=19) rfl;have fz:∀o,wz.frozen? ⟨b,o,none⟩=false:=fun o=>S.1.frozen o;have bz:=zlt S.1.h;have HS:=zh2 S.1 (HY.o.2.1.trans S.2);have hsz:=HX.o.2.2.2.1;clear S hwz hzb y0 y1 y2 d21 df B1 q0 q1 q2 q3 q4 q5 q6 q7 q8;by_cases k4:k=4
   ·subst k4
    have HE:=zhd hsz;clear hsz;have hE:s'=({s with made:=s.made++[⟨4,s.now,a,c,nm,yab x⟩],over:=true}:MS):=by rw[←HE.o];unfold MS.want;simp
    have HE:=zhd hE;clear hE;go_wp2_with fail
    go_end0
    have S2:=HS.o.1.scalar 19 (.bool true) s' (by rw[HE.o];rfl) (by rw[HE.o]) (by rw[HE.o]) (by rw[HE.o]) (by rw[HE.o]) (by rw[HE.o]) (by rw[HE.o]) (by rw[HE.o]);exact⟨_,rfl,zhd ⟨S2.1,HS.o.2.trans S2.2⟩⟩
   ·have k4':(k==4)=false:=by rw[zna];exact k4
    by_cases k5:k=5
    ·subst k5
     have HE:=zhd hsz;clear hsz;have hE:s'=({s with made:=s.made++[⟨5,s.now,a,c,nm,yab x⟩],over:=true}:MS):=by rw[←HE.o];unfold MS.want;simp
     have HE:=zhd hE;clear hE;go_wp2_with fail
     go_end0
     have S2:=HS.o.1.scalar 19 (.bool true) s' (by rw[HE.o];rfl) (by rw[HE.o]) (by rw[HE.o]) (by rw[HE.o]) (by rw[HE.o]) (by rw[HE.o]) (by rw[HE.o]) (by rw[HE.o]);exact⟨_,rfl,zhd ⟨S2.1,HS.o.2.trans S2.2⟩⟩
    ·have k5':(k==5)=false:=by rw[zna];exact k5
     by_cases k6:k=6
     ·subst k6
      have HE:=zhd hsz;clear hsz;have hE:s'=({s with made:=s.made++[⟨6,s.now,a,c,nm,yab x⟩],over:=true}:MS):=by rw[←HE.o];unfold MS.want;simp
      have HE:=zhd hE;clear hE;go_wp2_with fail
      go_end0
      have S2:=HS.o.1.scalar 19 (.bool true) s' (by rw[HE.o];rfl) (by rw[HE.o]) (by rw[HE.o]) (by rw[HE.o]) (by rw[HE.o]) (by rw[HE.o]) (by rw[HE.o]) (by rw[HE.o]);exact⟨_,rfl,zhd ⟨S2.1,HS.o.2.trans S2.2⟩⟩
     ·have k6':(k==6)=false:=by rw[zna];exact k6
      have HE:=zhd (show({s with made:=s.made++[⟨k,s.now,a,c,nm,yab x⟩]}:MS)=s' from by rw[←hsz];unfold MS.want;simp only[k4',k5',k6',Bool.or_false]);clear hsz;go_wp2_with fail
      go_end0
      exact⟨_,rfl,zhd (by rw[←HE.o];exact HS.o)⟩
theorem ydz:szV yai≤1073741824:=by rw[yc5];decide
theorem yas
  {Z:Nat→Prop}(b:Nat)(v:MV)(p:Img)(s:MS)(W:World)(M:MX TT Z W b v p s)
  (why:ByteArray)(hy:why.size≤64)(hl:s.made.length≤4294967296)(hZ:∀j,W.heap.size≤j→Z j)(s':MS)(hs':s.fall why=s'):
  Calls Tryz.prog 177 #[.pointer (some ⟨b,0,none⟩),.string why] W (MP Z W b v p (.bool true) s'):=by
 obtain⟨ss,ic,ps,inp,ts,as_,ls,ms⟩:=v;have b0:=zlt M.h;have c1:W.cell? ⟨b,20,none⟩=some (.string s.trap):=M.cell (k:=20) rfl;have f0:∀o,W.frozen? ⟨b,o,none⟩=false:=fun o=>M.frozen o;have S1:=M.scalar 20 (.string why) {s with trap:=why} rfl rfl rfl rfl rfl rfl rfl rfl;have HX:=zh5 S1.1 S1.2 hs' hl hZ;clear S1 M hs' hl hZ;go_enter Tryz.func177,Tryz.ntmps177;go_wp2_with fail;obtain⟨wr,hwr⟩:∃wr,wr=W.setCell ⟨b,20,none⟩ (.string why):=⟨_,rfl⟩;have HY:=zh2 (hwr▸HX.o.1) (hwr▸HX.o.2.1);rw[←hwr];clear hwr c1 f0 b0;have WN:=zhd (ybS b _ p _ wr HY.o.1 5 0 0 0 (⟨#[116,114,97,112,32]⟩++why) yai 0 0 ⟨#[]⟩ none 0 0 (fun _=>True) (yaD _ _) ydz HX.o.2.2.2.1 (yac HX.o.2.2.2.2 HY.o.2.keeps.size) s' (by have h:=HX.o.2.2.1;unfold MS.fall at h;exact h));refine WN.o.mono ?_;rintro e w5 ⟨v',rfl,H5⟩;go_wp2_with fail;go_ret;exact⟨v',rfl,zhd ⟨H5.o.1,HY.o.2.trans H5.o.2⟩⟩
theorem ygz
  {Z:Nat→Prop}(b:Nat)(v:MV)(p:Img)(s:MS)(W:World)(M:MX TT Z W b v p s)
  (x:Val)(ck cn:Int)(cs:ByteArray)(la:Option Addr)(ln lc:Nat)(C:CF (MZ Z v b) W ⟨ck,cn,cs,la,ln,lc⟩ x)(hw:x.wf)(hk:s.stk.length≤4294967296)(hl:s.made.length≤4294967296)(hZ:∀j,W.heap.size≤j→Z j)(s':MS)(hs':s.put x=s'):
  Calls Tryz.prog 181 #[.pointer (some ⟨b,0,none⟩),.agg #[.int .i64 ck,.int .i64 cn,.string cs,.slice la ln lc]] W (MP Z W b v p (.bool true) s'):=by
 obtain⟨w0,hw0⟩:∃w0,w0=W.alloc (.cells #[.int .i64 ck,.int .i64 cn,.string cs,.slice la ln lc] 38):=⟨_,rfl⟩;have B0:=zba hw0;have hB:=zha hw0;have q0:=zca hB 0 rfl;have q1:=zca hB 1 rfl;have q2:=zca hB 2 rfl;have q3:=zca hB 3 rfl;have lr:W.heap.size<w0.heap.size:=zlt hB;obtain⟨r,hr⟩:∃r,checkL x=r:=⟨_,rfl⟩;have CH:=zhd (yaB x ck cn cs la ln lc (MZ Z v b) w0 (C.keep (S:=fun _=>False) (zkb B0) (fun _ _ f=>f)) hw r hr);unfold MS.put at hs';rw[hr]at hs';have HX:=zh8 M B0 C hs' hl hZ hk hB;clear M B0 C hs' hl hZ hk hr hw hB;go_enter Tryz.func181,Tryz.ntmps181;go_wp2_with fail;rw[←hw0];clear hw0;refine CH.o.mono ?_;rintro e w5 ⟨rfl,hB5⟩;have B5:=HX.o.2.1.trans (hB5.mono HX.o.2.1.size);have hb5:=(hB5.block W.heap.size lr).trans HX.o.2.2.2.2.2.2.2;have M5:=HX.o.1.ext B5;have C5:=HX.o.2.2.1.keep (S:=fun _=>False) (zkb B5) (fun _ _ f=>f);have H5:=zh4 B5 hb5 M5 C5;clear hB5 q0 q1 q2 q3 lr B5 hb5 M5 C5;cases hz:(r !=0)with
 |true=>
  have hs':=HX.o.2.2.2.1;rw[if_pos (by simpa using hz)]at hs';have FL:=zhd (yas b v p s w5 H5.o.2.2.1 ⟨#[108,111,110,103]⟩ (by decide) HX.o.2.2.2.2.1 (yac HX.o.2.2.2.2.2.1 H5.o.1.size) s' hs');clear hs';go_wp2_with fail;refine FL.o.mono ?_;rintro e w6 ⟨v',rfl,H6⟩;go_wp2_with fail;go_ret;exact⟨v',rfl,zhd ⟨H6.o.1,(MK.ext H5.o.1).trans H6.o.2⟩⟩
 |false=>
  have hs':=HX.o.2.2.2.1;rw[if_neg (by simpa using hz)]at hs';have PU:=zhd (yah b v p s w5.drew (H5.o.2.2.1.ext (znv _ _).drew) x ck cn cs la ln lc (H5.o.2.2.2.keep (S:=fun _=>False) (zkb ((znv _ _).drew)) (fun _ _ f=>f)) HX.o.2.2.2.2.2.2.1);have q0:=zca H5.o.2.1 0 rfl;have q1:=zca H5.o.2.1 1 rfl;have q2:=zca H5.o.2.1 2 rfl;have q3:=zca H5.o.2.1 3 rfl;have lr:W.heap.size<w5.heap.size:=zlt H5.o.2.1;have hE:=zhd hs';clear hs';go_wp2_with fail;go_region_law ((go_simp;go_at_call 119;refine PU.o.mono ?_;rintro e w6 ⟨v',rfl,H6⟩))
  all_goals
   go_wp2_with fail;go_ret;exact⟨v',rfl,zhd ⟨by rw[←hE.o];exact H6.o.1,(MK.ext (H5.o.1.drew)).trans H6.o.2⟩⟩
end Go.Proofs.YtpagmlndgblhhaaGreatDoor
