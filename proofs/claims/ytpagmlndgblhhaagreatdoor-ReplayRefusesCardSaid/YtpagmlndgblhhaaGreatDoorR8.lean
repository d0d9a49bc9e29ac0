/- Parts of the proof: what the functions and the plain laws give that later parts lean on. Conditions: none beyond those that each theorem names. -/
import Derived.Test.YtpagmlndgblhhaaGreatDoorR7
set_option maxRecDepth 100000
set_option maxHeartbeats 8000000
namespace Go.Va
open Go.Own Go.RowKit
def ybG (n:Nat)(h:Int):List Nat→KSt→Int×KSt
 |[],st=>(0,st)
 |x::r,st=>bif (comeL n x h st).1 !=0 then comeL n x h st else ybG n h r (comeL n x h st).2
def stepL (n:Nat)(c:In)(k:Nat)(st:KSt):Int×KSt:=
 bif decide (st.heights.getD k 0 - yaz c<0)then(131,st)else
 bif decide (32<st.heights.getD k 0 - yaz c+(ofL c.op).1.o)then(131,st)else
 ybG n (st.heights.getD k 0 - yaz c+(ofL c.op).1.o) (followN c k) {st with most:=max st.most (st.heights.getD k 0 - yaz c+(ofL c.op).1.o)}
theorem yfP (n k:Nat)(h:Int)(st:KSt):(comeL n k h st).2.heights.length=st.heights.length∧(comeL n k h st).2.todo.length≤st.todo.length+1:=by
 unfold comeL;cases decide (n≤k)
 ·cases decide (st.heights.getD k 0<0)
  ·cases(st.heights.getD k 0 !=h)<;>simp
  ·simp
 ·simp
def yiw:List Int→Nat
 |[]=>0
 |x::r=>(bif decide (x<0)then 1 else 0)+yiw r
theorem yhw:∀(l:List Int) (k:Nat) (x h:Int),l[k]? =some x→x<0→0≤h→yiw (l.set k h)+1=yiw l
 |[],_,_,_,hx,_,_=>by simp at hx
 |y::r,0,x,h,hx,h1,h2=>by
  simp at hx;subst hx;simp only[List.set_cons_zero,yiw,zno h1,znd (show¬h<0 by omega),znm,znl];omega
 |y::r,k+1,x,h,hx,h1,h2=>by
  have:=yhw r k x h (by simpa using hx) h1 h2;simp only[List.set_cons_succ,yiw];omega
theorem ybK:∀n:Nat,yiw (List.replicate n (-1))=n
 |0=>rfl
 |n+1=>by
  rw[List.replicate_succ,yiw,ybK n];simp;omega
structure Inv (n f:Nat)(st:KSt):Prop where
 len:st.heights.length=n
 all:∀x∈st.heights,-1≤x∧x≤32
 todo:∀k∈st.todo,∃x,st.heights[k]? =some x∧0≤x
 less:yiw st.heights+st.todo.length≤f
 m0:0≤st.most
 m1:st.most≤32
theorem yd8 {n f k:Nat}{h:Int}{st:KSt}(I:Inv n f st)(h0:0≤h)(h1:h≤32):Inv n f (comeL n k h st).2:=by
 unfold comeL;by_cases hk:n≤k
 ·rw[zno hk];exact I
 ·rw[znd hk]
  simp only[znl];obtain⟨x,hx⟩:∃x,st.heights[k]? =some x:=⟨st.heights[k]'(by have:=I.len;omega),by simp⟩;rw[List.getD_eq_getElem?_getD,hx,Option.getD_some];by_cases hn:x<0
  ·rw[zno hn]
   simp only[znm];refine⟨by simpa using I.len,fun y hy=> ?_,fun j hj=> ?_,?_,I.m0,I.m1⟩
   ·rcases List.mem_or_eq_of_mem_set hy with h|rfl
    ·exact I.all y h
    ·omega
   ·simp only[List.mem_append,List.mem_singleton]at hj
    rcases hj with hj|rfl
    ·obtain⟨y,hy,hy0⟩:=I.todo j hj
     refine⟨y,?_,hy0⟩;rw[List.getElem?_set_ne]
     ·exact hy
     ·intro e
      subst e;rw[hx]at hy;cases hy;omega
    ·exact⟨h,by rw[List.getElem?_set_self (by have:=I.len;omega)],h0⟩
   ·have:=yhw st.heights k x h hx hn h0
    have:=I.less;simp only[znk,zmh];omega
  ·rw[znd hn]
   simp only[znl];cases(x !=h)
   ·exact I
   ·exact I
theorem yeM {n f:Nat}{h:Int}(h0:0≤h)(h1:h≤32):∀(l:List Nat) {st:KSt},Inv n f st→Inv n f (ybG n h l st).2
 |[],_,I=>I
 |x::r,st,I=>by
  have h2:=yd8 (k:=x) I h0 h1;rw[ybG];cases((comeL n x h st).1 !=0)
  ·exact yeM h0 h1 r h2
  ·exact h2
theorem yfl {n f k:Nat}{c:In}{st:KSt}(I:Inv n f st)(ho:0≤(ofL c.op).1.o):Inv n f (stepL n c k st).2:=by
 unfold stepL;generalize hh:st.heights.getD k 0 - yaz c=d;by_cases h1:d<0
 ·rw[zno h1];exact I
 ·rw[znd h1]
  simp only[znl];by_cases h2:32<d+(ofL c.op).1.o
  ·rw[zno h2];exact I
  ·rw[znd h2]
   simp only[znl];exact yeM (by omega) (by omega) _ ⟨I.len,I.all,I.todo,I.less,by have:=I.m0;show 0≤max _ _;omega,by have:=I.m1;show max _ _≤(32:Int);omega⟩
def yhR (code:List In):Nat→KSt→(Int×Int)×KSt
 |0,st=>((-1,0),st)
 |f+1,st=>match st.todo with
  |[]=>((-1,0),st)
  |k::r=>match code[k]? with
   |none=>((-1,0),st)
   |some c=>bif (stepL code.length c k {st with todo:=r}).1 !=0 then(((k:Int),(stepL code.length c k {st with todo:=r}).1),(stepL code.length c k {st with todo:=r}).2)else yhR code f (stepL code.length c k {st with todo:=r}).2
def walkL (code:List In):(Int×Int)×KSt:=
 let q:=comeL code.length 0 0 ⟨List.replicate code.length (-1),[],0⟩
 bif q.1 !=0 then((0,q.1),q.2)else yhR code (code.length+1) q.2
structure CodeOk (code:List In):Prop where
 len:code.length≤512
 a0:∀c∈code,0≤c.a
 tk:∀c∈code,0≤yaz c∧yaz c≤512
 o:∀c∈code,0≤(ofL c.op).1.o∧(ofL c.op).1.o≤2
theorem cIn (c:In):(⟨c.op,c.a⟩:In)=c:=rfl
end Go.Va
namespace Go.Proofs.YtpagmlndgblhhaaGreatDoor
open Go.RowKit Go.Own Go.Own.MapTy Go.Va Go.Sort
open Go.Own.Cells (sz enc)
theorem KK.row {α:Type}[Cells α]{b:Nat}{v v':KV}{W W':World}{e:TypeId}{x:Value}{l:List α}(K:KK b v W v' W')(h:RowAt W e x l)(hx:∀g,x.ownBlock=some g→¬KO v b g):RowAt W' e x l:=h.keep K.1 hx
theorem ydH {w:World}{e:TypeId}{xs:List Nat}{g off n cap:Nat}(h:RowAt w e (.slice (some ⟨g,off,none⟩) n cap) xs){i:Nat}{x:Nat}(hx:xs[i]? =some x):w.cell? ⟨g,off+i,none⟩=some (.int .i64 (x:Int)):=by
 have h0:=h.cell hx (j:=0) (by decide);rwa[show off+(i*Cells.sz Nat+0)=off+i from by simp[Cells.sz]]at h0
theorem yd6 {α:Type}[Cells α]{P:Program}{t e:TypeId}{bytes:Nat}(E:ElemOf α P t e bytes){w:World}{ad:Option Addr}{n cap:Nat}{xs:List α}(h:RowAt w e (.slice ad n cap) xs){k:Nat}(hk:k≤xs.length):
  ∃ad',(∀W:World,(Instr.slice t (.slice ad n cap) (some (.int .i64 k)) none none).run P W= .ok (.slice ad' (n - k) (cap - k)) W)∧RowAt w e (.slice ad' (n - k) (cap - k)) (xs.drop k)∧∀g,(Value.slice ad' (n - k) (cap - k)).ownBlock=some g→(Value.slice ad n cap).ownBlock=some g:=by
 obtain⟨i,z,hi,h1,h2,h3,h4⟩:=E.hi;cases ad with
 |none=>
  rcases h with⟨h,rfl⟩|⟨g,off,c,cur,h,_⟩
  ·cases h
   simp at hk;subst hk;exact⟨none,fun W=>by simp[Instr.slice,run_underlying E.ht,Instr.sliceBounds,Instr.sliceBound,asIntOf,sizeOf,typeInfo,hi,Result.andThen],.inl ⟨rfl,rfl⟩,fun g h=>(by cases h)⟩
  ·cases h
 |some ad=>
  rcases h with⟨h,_⟩|⟨g,off,c,cur,h,hh,hl⟩
  ·cases h
  ·cases h
   obtain⟨off',h5,h6⟩:=ycl E.ht hi h2 (RowAt.slice_mk hh hl) hk;exact⟨_,h5,h6,fun g h=>h⟩
theorem ykA (b:Nat)(F:Nat→Prop)(hF:∀j,F j→j<b)(ca:Option Addr)(n cc:Nat)(code:List In)(v:KV)(st:KSt)(k:Nat)(c:In)(W:World)(R:KX W b (.slice ca n cc) v st)(HC:RdF F W (.slice ca n cc) code)(hc:code[k]? =some c)
  (hn:st.heights.length=n)(ht:st.todo.length≤65530)(hk:k<65536)(ha:0≤c.a)(h1:0≤yaz c∧yaz c≤512)(h2:0≤(ofL c.op).1.o∧(ofL c.op).1.o≤2)(x:Int)(hx:st.heights[k]? =some x)(hx1: -1≤x∧x≤32)(r:Int×KSt)(hr:stepL n c k st=r):
  Calls Tryz.prog 134 #[.pointer (some ⟨b,0,none⟩),.int .i64 k] W (ynO W b (.slice ca n cc) v r):=by
 unfold stepL at hr;obtain⟨hnc,hmx,g,off,had,hel⟩:=HC.elems;obtain⟨hFg,hg,hcs⟩:=hel k c hc;have had:=had.resolve_right (fun e=>by rw[e]at hc;simp at hc);subst had;have m0:=hcs 0 _ rfl;have m1:=hcs 1 _ rfl;rw[show off+(k*sz In+0)=off+k*2 from rfl]at m0;rw[show off+(k*sz In+1)=off+k*2+1 from rfl]at m1;have hkl:=(zge hc).1;have hkn:(k:Int)<n:=by omega
 have FO:=zhd (fun W' (K:Keeps (fun j=>b≤j) W W')=>ycV (HC.keep K (fun g hg=>by have:=hF g hg;omega)) k c hc ha hk);have hfl:(followN c k).length≤2:=by
  unfold followN;cases(ofL c.op).1.ends
  ·cases(c.op==11)
   ·cases(ofL c.op).1.flow<;>simp
   ·simp
  ·simp
 generalize followN c k=fl at*;have HW:=zh2 HC hF;clear hel hcs hc HC ha;obtain⟨vh,vt⟩:=v;obtain⟨ta,tc,rfl⟩:∃a cap,vt= .slice a st.todo.length cap:=R.todo.slice;obtain⟨ha,hc,rfl⟩:∃a cap,vh= .slice a st.heights.length cap:=R.heights.slice;have b0:=zlt R.h;have qq:∀o,W.cell? ⟨b,o,none⟩=(#[.slice (some ⟨g,off,none⟩) n cc,.slice ha st.heights.length hc,.slice ta st.todo.length tc,.int .i64 st.most]:Array Value)[o]? :=fun o=>by rw[zch R.h]
 have q0:=qq 0;have q1:=qq 1;have q3:=qq 3;simp only[zmc,zma,zmb]at q0 q1 q3;clear qq;have f0:∀o,W.frozen? ⟨b,o,none⟩=false:=fun o=>zfr R.h o;obtain⟨hg',hoff,rfl,hgl⟩:=R.heights.addr hx;have y0:=ycR R.heights hx;have hkh:(k:Int)<st.heights.length:=by omega
 rw[List.getD_eq_getElem?_getD,hx,Option.getD_some]at hr;obtain⟨inf,ok,hof⟩:∃inf ok,ofL c.op=(inf,ok):=⟨_,_,rfl⟩;have OF:=zhd (ya0 c.op inf ok hof);have TK:=zhd (yi3 c.op c.a);rw[cIn]at TK;rw[hof]at hr h2;obtain⟨tk,htk⟩:∃tk,yaz c=tk:=⟨_,rfl⟩;rw[htk]at hr h1 TK;dsimp only at hr h2;have hw1:IntKind.i64.wrap (x - tk)=x - tk:=zmk _ (by omega);have hw2:IntKind.i64.wrap (x - tk+inf.o)=x - tk+inf.o:=zmk _ (by omega);obtain⟨op,a⟩:=c;dsimp only at m0 m1 OF TK;have HR:=zhd R;have HB:=zh3 hn ht hnc;clear R hn ht hnc hof htk hx;go_enter Tryz.func134,Tryz.ntmps134;go_wp2_with fail;refine(OF.o _).mono ?_;rintro e w5 ⟨rfl,hB5⟩;obtain⟨w6,hw6⟩:∃w6,w6=w5.alloc (.cells #[.string inf.name,.int .i64 inf.operand,.int .i64 inf.i,.int .i64 inf.o,.bool inf.blocks,.bool inf.ends,.bool inf.flow] 169):=⟨_,rfl⟩;have sz5:W.heap.size+1≤w5.heap.size:=by have:=hB5.size;simpa using this
 have B5:Below W.heap.size W w5:=((znv _ _).alloc (znc _) (.cells #[.int .i64 op,.int .i64 a] 106)).trans (hB5.mono (by simp));have B6:Below W.heap.size W w6:=by rw[hw6];exact B5.alloc (by omega) _
 have sz6:w6.heap.size=w5.heap.size+1:=by rw[hw6];simp
 have hb5:¬b=w5.heap.size:=by omega
 have u3:w6.cell? ⟨w5.heap.size,3,none⟩=some (.int .i64 inf.o):=by rw[hw6,zch (znb _ _)];rfl
 have i0:w6.cell? ⟨W.heap.size,0,none⟩=some (.int .i64 op):=by rw[hw6,znt (w:=w5) (zne _ _ _ (by show W.heap.size<w5.heap.size;omega)),hB5.cell (p:=⟨W.heap.size,0,none⟩) (by simp),zch (znb _ _)];rfl
 have i1:w6.cell? ⟨W.heap.size,1,none⟩=some (.int .i64 a):=by rw[hw6,znt (w:=w5) (zne _ _ _ (by show W.heap.size<w5.heap.size;omega)),hB5.cell (p:=⟨W.heap.size,1,none⟩) (by simp),zch (znb _ _)];rfl
 have R6:=HR.o.ext B6;have q0:=(B6.cell (p:=⟨b,0,none⟩) b0).trans q0;have q1:=(B6.cell (p:=⟨b,1,none⟩) b0).trans q1;have q3:=(B6.cell (p:=⟨b,3,none⟩) b0).trans q3;have y0:=(B6.cell (p:=⟨hg',hoff+k,none⟩) hgl).trans y0;have b0:b<w6.heap.size:=by omega
 have hgl:hg'<w6.heap.size:=by omega
 have lW:W.heap.size<w6.heap.size:=by omega
 have l5:w5.heap.size<w6.heap.size:=by omega
 have f0:∀o,w6.frozen? ⟨b,o,none⟩=false:=fun o=>zfr R6.h o;have H6:=zh2 B6 R6;go_wp2_with fail;rw[←hw6];clear hw6 B5 B6 R6 hB5 sz5 sz6 OF m0 m1 hg;refine yaC (by kernel_rfl) (by kernel_rfl) ?_
 repeat(go_big_quiet_step ((go_at_call 154;exact ydq (TK.o _))))
 refine wpQuiet_nil ?_;intro w7 hB7;have q0:=(hB7.cell (p:=⟨b,0,none⟩) b0).trans q0;have q3:=(hB7.cell (p:=⟨b,3,none⟩) b0).trans q3;have u3:=(hB7.cell (p:=⟨w5.heap.size,3,none⟩) l5).trans u3;have H7:=zh2 (H6.o.1.trans (hB7.mono H6.o.1.size)) (H6.o.2.ext hB7);have f0:∀o,w7.frozen? ⟨b,o,none⟩=false:=fun o=>zfr H7.o.2.h o;have b0:b<w7.heap.size:=zlt H7.o.2.h;have l5:w5.heap.size<w7.heap.size:=znj l5 hB7.size;clear hB7 i0 i1 y0 q1 hgl lW TK;cases h5:decide (x - tk<0)with
 |true=>
  have e5:x - tk<0:=znx h5;rw[h5]at hr;simp only[znm]at hr;subst hr;go_wp2_with fail;go_ret;exact⟨_,rfl,zhd ⟨H7.o.2,KK.ext H7.o.1⟩⟩
 |false=>
  have e5:¬x - tk<0:=zny h5;rw[h5]at hr;simp only[znl]at hr;cases h6:decide (32<x - tk+inf.o)with
  |true=>
   have e6:32<x - tk+inf.o:=znx h6;rw[h6]at hr;simp only[znm]at hr;subst hr;go_wp2_with fail;go_ret;exact⟨_,rfl,zhd ⟨H7.o.2,KK.ext H7.o.1⟩⟩
  |false=>
   have e6:¬32<x - tk+inf.o:=zny h6;rw[h6]at hr;simp only[znl]at hr;obtain⟨h,hh⟩:∃h,h=x - tk+inf.o:=⟨_,rfl⟩;have hw3:IntKind.i64.wrap (x - tk+inf.o)=h:=by rw[hh];exact hw2
   rw[←hh]at hr e6;have PM:=zhd (H7.o.2.setM (max st.most h));have K8:=zhd (((KK.ext H7.o.1).trans PM.o.2).1.mono (T:=fun j=>b≤j) (fun j _ e=>HR.o.lo j e));have HH:=zhd hr;clear hr hh h5 h6 hw2;go_wp2_with fail;refine(FO.o _ K8.o).mono ?_;rintro e w9 ⟨fv,rfl,hfr,hff,hB9⟩;obtain⟨fa,fc,rfl⟩:=hfr.slice;have R9:=PM.o.1.ext hB9;have HF:=zh4 hfr hff hB9 R9;clear hfr hff hB9 R9;go_wp2_with fail;go_loopg [59] (fl.length) (fun gk v59 wr=>∃(i:Nat) (st':KSt) (v':KV),v59= .int .i64 i∧i≤fl.length∧gk=fl.length - i∧KX wr b (.slice (some ⟨g,off,none⟩) n cc) v' st'∧ybG n h (fl.drop i) st'=r∧KK b ⟨.slice (some ⟨hg',hoff,none⟩) st.heights.length hc,.slice ta st.todo.length tc⟩ w9 v' wr∧st'.heights.length=n∧st'.todo.length≤st.todo.length+i)
   case atStart=>exact⟨0,_,_,rfl,znq _,rfl,HF.o.2.2.2,HH.o,KK.refl _ _ _,HB.o.1,znc _⟩
   case round=>
    obtain⟨i,st',v',rfl,hi,hgk,hR,hco,hK,hl1,hl2⟩:=hrel;by_cases hin:i<fl.length
    ·obtain⟨y,hy⟩:=yad hin
     have hdr:fl.drop i=y::fl.drop (i+1):=by
      rw[znr (zge hy).1,(zge hy).2]
     rw[hdr,ybG]at hco;have RF:=KK.row hK HF.o.1 (fun j hj e=>by have:=HF.o.2.1 j hj;have:=PM.o.1.lt e;omega);obtain⟨fg,foff,rfl,hfg⟩:=RF.addr hy;have z0:=ydH RF hy;have hin':(i:Int)<fl.length:=by omega
     have CO:=zhd (yhL b _ n cc v' st' y h wr hR hl1 (by have:=HB.o.2.1;omega) _ rfl);have hcb:=yfP n y h st';generalize comeL n y h st'=cq at*;have HX:=zh6 hco hgk hK hcb hl1 hl2;clear hco hgk hK hcb hdr hy RF hR hl1 hl2;go_wp2_with fail;refine CO.o.mono ?_;rintro e w5' ⟨v5,rfl,H5⟩;cases hz:(cq.1 !=0)with
     |true=>
      have hr:=HX.o.1;rw[hz]at hr;simp only[znm]at hr;subst hr;go_wp2_with fail;go_ret;exact⟨v5,rfl,zhd ⟨H5.o.1,(KK.ext H7.o.1).trans (PM.o.2.trans ((KK.ext HF.o.2.2.1).trans (HX.o.2.2.1.trans H5.o.2)))⟩⟩
     |false=>
      have hr:=HX.o.1;rw[hz]at hr;simp only[znl]at hr;have HC2:=zhd hr;clear hr;go_wp2_with fail;go_roundg (fl.length - (i+1))
      case measure=>have:=HX.o.2.1;omega
      case rel=>exact⟨i+1,cq.2,v5,by simp,by omega,rfl,H5.o.1,HC2.o,HX.o.2.2.1.trans H5.o.2,by rw[HX.o.2.2.2.1.1];exact HX.o.2.2.2.2.1,by have:=HX.o.2.2.2.1.2;have:=HX.o.2.2.2.2.2;omega⟩
    ·obtain rfl:i=fl.length:=by omega
     rw[zns (znc _),ybG]at hco;have HX:=zh2 hR hK;subst hco;clear hR hK hgk;go_wp2_with fail;go_ret;exact⟨v',rfl,zhd ⟨HX.o.1,(KK.ext H7.o.1).trans (PM.o.2.trans ((KK.ext HF.o.2.2.1).trans HX.o.2))⟩⟩
def ynN (W:World)(b:Nat)(cv:Value)(q:(Int×Int)×KSt)(e:Ending)(w':World):Prop:=∃v',e= .returned (.agg #[.int .i64 q.1.1,.int .i64 q.1.2])∧Hid (KX w' b cv v' q.2∧KK b ⟨.slice none 0 0,.slice none 0 0⟩ W v' w')
theorem yjH (b:Nat)(F:Nat→Prop)(hF:∀j,F j→j<b)(ca:Option Addr)(n cc:Nat)(code:List In)(W:World)(R:KX W b (.slice ca n cc) ⟨.slice none 0 0,.slice none 0 0⟩ ⟨[],[],0⟩)(HC:RdF F W (.slice ca n cc) code)(OK:CodeOk code)(q:(Int×Int)×KSt)(hq:walkL code=q):
  Calls Tryz.prog 95 #[.pointer (some ⟨b,0,none⟩)] W (ynN W b (.slice ca n cc) q):=by
 have hnc:=HC.elems.1;have b0:=zlt R.h;have q0:=zca R.h 0 rfl;have HS:=zh4 HC OK hq hF;have hn:=OK.len;rw[←hnc]at hn;have HR:=zh2 R hnc;clear R HC OK hq hnc;go_enter Tryz.func95,Tryz.ntmps95;go_wp2_with fail;obtain⟨W1,hW1⟩:∃W1,W1=W.alloc (.cells #[.int .i64 0,.int .i64 0] 112):=⟨_,rfl⟩;have B1:=zba hW1;have f1:=zha hW1;rw[←hW1];have H1:=zh3 B1 f1 (HR.o.1.ext B1);clear hW1 B1 f1;go_loopg [11] n (fun gk v11 wr=>∃(i:Nat) (vh:Value),v11= .int .i64 i∧i≤n∧gk=n - i∧KX wr b (.slice ca n cc) ⟨vh,.slice none 0 0⟩ ⟨List.replicate i (-1),[],0⟩∧KK b ⟨.slice none 0 0,.slice none 0 0⟩ W1 ⟨vh,.slice none 0 0⟩ wr)
 case atStart=>exact⟨0,_,rfl,znq _,rfl,H1.o.2.2,KK.refl _ _ _⟩
 case round=>
  obtain⟨i,vh,rfl,hi,hgk,hR,hK⟩:=hrel;by_cases hin:i<n
  ·have hin':(i:Int)<n:=by omega
   obtain⟨ha,hc,he⟩:=hR.heights.slice;rw[List.length_replicate]at he;dsimp only at he;subst he;have b1:=zlt hR.h;have q1:=zca hR.h 1 rfl;have f0:∀o,wr.frozen? ⟨b,o,none⟩=false:=fun o=>zfr hR.h o;have HX:=zh3 hgk hR hK;clear hgk hR hK;go_wp2_with (at_builtin;go_must (refine ybR (α:=Int) ynq rfl (.tmp 17) (.tmp 18) rfl (HX.o.2.1.heights.alloc _) (-1) rfl rfl (znb _ _) (by simp;omega) (by simp;unfold maxLen;omega) ?_);intro a1 q1 w1 hr1 hk1 hf1;rw[List.length_replicate]at hr1;simp only[List.length_replicate]at hf1;have hb1:=(hk1.block b (by simp;omega) (fun e=>HX.o.2.1.sh b e rfl)).trans ((zne _ _ _ b1).trans HX.o.2.1.h);have c2:w1.cell? ⟨b,1,none⟩=some (.slice ha i hc):=by{rw[zch hb1];rfl};have f1:∀o,w1.frozen? ⟨b,o,none⟩=false:=fun o=>zfr hb1 o;have b1:b<w1.heap.size:=zlt hb1;have HF:=zh3 hr1 hk1 hf1;clear hb1 hr1 hk1 hf1);have S:=zhd ((HX.o.2.1.ext ((znv _ _).alloc (znc _) (.cells #[.int .i64 (-1)] 3))).setH HF.o.1 HF.o.2.1 HF.o.2.2);go_roundg (n - (i+1))
   case measure=>have:=HX.o.1;omega
   case rel=>exact⟨i+1,_,by simp,by omega,rfl,by have:=S.o.1;rwa[show List.replicate i (-1:Int)++[-1]=List.replicate (i+1) (-1)from(List.replicate_succ' ..).symm]at this,HX.o.2.2.trans ((KK.ext (zal)).trans S.o.2)⟩
  ·obtain rfl:i=n:=by omega
   have hnc:=HR.o.2;subst hnc;have CO:=zhd (yhL b ca code.length cc ⟨vh,.slice none 0 0⟩ _ 0 0 wr hR (by simp) (by simp) _ rfl);have hI:=yd8 (n:=code.length) (f:=code.length) (k:=0) (h:=0) (st:=⟨List.replicate code.length (-1),[],0⟩) ⟨by simp,(fun x hx=>by rw[(List.mem_replicate.1 hx).2];omega),(fun k hk=>by cases hk),(by rw[ybK];simp),Int.le_refl 0,(by show(0:Int)≤32;decide)⟩ (by decide) (by decide);have hq:=HS.o.2.2.1;unfold walkL at hq;dsimp only at hq;generalize comeL code.length 0 0 ⟨List.replicate code.length (-1),[],0⟩=cq at*;have HX:=zh3 hK hI hq;clear hgk hR hK hI hq;go_wp2_with fail;refine(show Calls _ _ #[_,.int .i64 0,_] _ _ from CO.o).mono ?_;rintro e w5 ⟨v5,rfl,H5⟩;have K5:=HX.o.1.trans H5.o.2;have lW:=zlt H1.o.2.1;have ff:=(K5.1.block W.heap.size lW (fun e=>by have:=HR.o.1.lt e;omega)).trans H1.o.2.1;have z0:=zfr ff 0;have z1:=zfr ff 1;have q1:=zca ff 0 rfl;have q2:=zca ff 1 rfl;have l5:=zlt ff;have HK5:=zhd K5;clear ff K5;have HE:=zhd (fun(p:(Int×Int)×KSt) (vz:KV) (wz:World) (hz:KX wz b (.slice ca code.length cc) vz p.2) (kz:KK b ⟨.slice none 0 0,.slice none 0 0⟩ W1 vz wz) (x y:Value)=>
    (show KX ((wz.setCell ⟨W.heap.size,0,none⟩ x).setCell ⟨W.heap.size,1,none⟩ y) b (.slice ca code.length cc) vz p.2∧KK b ⟨.slice none 0 0,.slice none 0 0⟩ W vz ((wz.setCell ⟨W.heap.size,0,none⟩ x).setCell ⟨W.heap.size,1,none⟩ y)from by
      have hno:∀j,j=W.heap.size→¬KO vz b j:=fun j hj e=>by
       rcases kz.2 j e with h|h
       ·have:=HR.o.1.lt h
        omega
       ·have:=zlt H1.o.2.1
        omega
      have k1:Keeps (fun j=>j=W.heap.size) wz ((wz.setCell ⟨W.heap.size,0,none⟩ x).setCell ⟨W.heap.size,1,none⟩ y):=Keeps.setCell (S:=fun j=>j=W.heap.size) (p:=⟨W.heap.size,1,none⟩) (Keeps.setCell (S:=fun j=>j=W.heap.size) (p:=⟨W.heap.size,0,none⟩) (Keeps.refl _ _) (.inl rfl) x) (.inl rfl) y;have hh:=(KK.ext (b:=b) (v:=⟨.slice none 0 0,.slice none 0 0⟩) H1.o.1).trans kz;refine⟨⟨(k1.block b (zlt hz.h) (fun e=>hno b e (.inl rfl))).trans hz.h,hz.heights.keep k1 (fun g hg e=>hno g e (.inr (.inl hg))),hz.todo.keep k1 (fun g hg e=>hno g e (.inr (.inr hg))),hz.sh,hz.sd,hz.lo⟩,hh.1.trans k1 (fun j hj e=>by omega),hh.2⟩))
   cases hz:(cq.1 !=0)with
   |true=>
    have hr:=HX.o.2.2;rw[hz]at hr;simp only[znm]at hr;subst hr;go_wp2_with fail;exact zng (v:=.agg #[.int .i64 0,.int .i64 cq.1]) (by simp only[results,Tryz.results95];go_simp) rfl ⟨v5,rfl,zhd (HE.o ((0,cq.1),cq.2) v5 _ H5.o.1 HK5.o _ _)⟩
   |false=>
    have hr:=HX.o.2.2;rw[hz]at hr;simp only[znl]at hr;have HR2:=zhd hr;clear hr;go_wp2_with fail;go_loopg [] (code.length+1) (fun gk wr=>∃(st:KSt) (v:KV),KX wr b (.slice ca code.length cc) v st∧KK b ⟨.slice none 0 0,.slice none 0 0⟩ W1 v wr∧Inv code.length gk st∧yhR code gk st=q∧gk≤code.length+1)
    case atStart=>
     have I:=HX.o.2.1;exact⟨cq.2,v5,H5.o.1,HK5.o,⟨I.len,I.all,I.todo,by have:=I.less;omega,I.m0,I.m1⟩,HR2.o,znc _⟩
    case round=>
     obtain⟨st,v,hR,hK,hI,hb,hg1⟩:=hrel;obtain⟨vh,vt⟩:=v;obtain⟨ta,tc,rfl⟩:∃a cap,vt= .slice a st.todo.length cap:=hR.todo.slice;have b1:=zlt hR.h;have q2':wr.cell? ⟨b,2,none⟩=some (.slice ta st.todo.length tc):=by rw[zch hR.h];rfl
     have f0:∀o,wr.frozen? ⟨b,o,none⟩=false:=fun o=>zfr hR.h o;cases hto:st.todo with
     |nil=>
      have e0:st.todo.length=0:=by rw[hto];rfl
      rw[e0]at q2';have hq:((-1,0),st)=q:=by
       cases gk with
       |zero=>exact hb
       |succ f=>rw[yhR,hto]at hb;exact hb
      subst hq;have ff:=(hK.1.block W.heap.size lW (fun e=>by have:=HR.o.1.lt e;omega)).trans H1.o.2.1;have z0':=zfr ff 0;have z1':=zfr ff 1;have q3:=zca ff 0 rfl;have q4:=zca ff 1 rfl;have l5:=zlt ff;have HY:=zh2 hR hK;clear ff hR hK hI hb hto hg1;go_wp2_with fail;exact zng (v:=.agg #[.int .i64 (-1),.int .i64 0]) (by simp only[results,Tryz.results95];go_simp) rfl ⟨_,rfl,zhd (HE.o ((-1,0),st) _ _ HY.o.1 HY.o.2 _ _)⟩
     |cons k r=>
      obtain⟨f,rfl⟩:∃f,gk=f+1:=⟨gk - 1,by have:=hI.less;rw[hto]at this;simp at this;omega⟩;rw[yhR,hto]at hb;dsimp only at hb;have hk0:st.todo[0]? =some k:=by rw[hto];rfl
      obtain⟨x,hx,hx0⟩:=hI.todo k (by rw[hto];exact zmf ..);have hkl:k<code.length:=by have:=(zge hx).1;have:=hI.len;omega
      obtain⟨c,hc⟩:=yad hkl;rw[hc]at hb;dsimp only at hb;have hcm:=zmg hc;have RT:RowAt wr 3 (.slice ta st.todo.length tc) st.todo:=hR.todo;obtain⟨tg,toff,rfl,htg⟩:=RT.addr hk0;have t0:=ydH RT hk0;rw[Nat.add_zero]at t0;have hlen:st.todo.length=r.length+1:=by rw[hto];rfl
      obtain⟨ad',cR,rT,oT⟩:=yd6 ylk RT (k:=1) (by omega);rw[show((1:Nat):Int)=1 from rfl]at cR;rw[show st.todo.drop 1=r from by rw[hto];rfl]at rT;have hpos:(0:Int)<st.todo.length:=by omega
      have ST:=zhd (hR.setT (w1:=wr) (v1:=.slice ad' (st.todo.length - 1) (tc - 1)) (l1:=r) rT (Keeps.refl _ _) (fun g hg=>.inl (oT g hg)));have KS2:=(KK.ext (b:=b) (v:=⟨.slice none 0 0,.slice none 0 0⟩) H1.o.1).trans (hK.trans ST.o.2);have I2:Inv code.length f {st with todo:=r}:=⟨hI.len,hI.all,(fun j hj=>hI.todo j (by rw[hto];exact zme _ hj)),(by have:=hI.less;rw[hlen]at this;show yiw st.heights+r.length≤f;omega),hI.m0,hI.m1⟩;have OKc:=HS.o.2.1;have hln:=HR.o.2;have STP:=zhd (ykA b F HS.o.2.2.2 ca code.length cc code _ {st with todo:=r} k c _ ST.o.1 (HS.o.1.keep KS2.1 (fun j hj e=>by have:=HS.o.2.2.2 j hj;have:=HR.o.1.lo j e;omega)) hc hI.len (by have:=I2.less;have:=OKc.len;have:=hI.less;have:=HX.o.2.1.less;show r.length≤65530;omega) (by have:=OKc.len;omega) (OKc.a0 c hcm) (OKc.tk c hcm) (OKc.o c hcm) x hx (hI.all x (zmg hx)) _ rfl);have I3:=yfl (k:=k) (c:=c) I2 (OKc.o c hcm).1;generalize stepL code.length c k {st with todo:=r}=sq at*;have HY:=zh4 hb I3 (hK.trans ST.o.2) hg1;clear hb I2 I3 hI hK KS2 rT oT RT OKc hx hx0 hk0 hto hc hcm hln hlen hg1;go_wp2_with fail;refine STP.o.mono ?_;rintro e w7 ⟨v7,rfl,H7⟩
      have K7:=HY.o.2.2.1.trans H7.o.2;have ff:=(K7.1.block W.heap.size lW (fun e=>by have:=HR.o.1.lt e;omega)).trans H1.o.2.1;have z0':=zfr ff 0;have z1':=zfr ff 1;have q3:=zca ff 0 rfl;have q4:=zca ff 1 rfl;have l5:=zlt ff;have HK7:=zhd K7;clear ff K7;cases hz2:(sq.1 !=0)with
      |true=>
       have hr:=HY.o.1;rw[hz2]at hr;simp only[znm]at hr;subst hr;go_wp2_with fail;exact zng (v:=.agg #[.int .i64 k,.int .i64 sq.1]) (by simp only[results,Tryz.results95];go_simp) rfl ⟨v7,rfl,zhd (HE.o ((k,sq.1),sq.2) v7 _ H7.o.1 HK7.o _ _)⟩
      |false=>
       have hr:=HY.o.1;rw[hz2]at hr;simp only[znl]at hr;have HR3:=zhd hr;clear hr;go_wp2_with fail;go_roundg f
       case measure=>omega
       case rel=>exact⟨sq.2,v7,H7.o.1,HK7.o,HY.o.2.1,HR3.o,by have:=HY.o.2.2.2;omega⟩
end Go.Proofs.YtpagmlndgblhhaaGreatDoor
namespace Go.Va
open Go.Own Go.RowKit
def yao (code:List In)(k:Nat):Bool:=match code[k]? with
 |some c=>restsL c
 |none=>true
def yaq (code:List In)(k:Nat):List Nat:=match code[k]? with
 |some c=>followN c k
 |none=>[]
def yaZ (code:List In)(k0:Nat):List Nat→List Bool→List Nat→Option (List Bool×List Nat)
 |[],seen,todo=>some (seen,todo)
 |x::r,seen,todo=>bif x==k0 then none else bif !(seen.getD x false)&& !(yao code x)then yaZ code k0 r (seen.set x true) (todo++[x])else yaZ code k0 r seen todo
def yc6 (code:List In)(k0:Nat):Nat→List Bool→List Nat→Bool
 |0,_,_=>false
 |f+1,seen,todo=>match todo with
  |[]=>false
  |k::r=>match yaZ code k0 (yaq code k) seen r with
   |none=>true
   |some q=>yc6 code k0 f q.1 q.2
def roundL (code:List In)(k0:Nat):Bool:=bif yao code k0 then false else yc6 code k0 (code.length+1) (List.replicate code.length false) [k0]
def ydY:List Bool→Nat
 |[]=>0
 |x::r=>(bif x then 0 else 1)+ydY r
theorem ydZ (c:In)(k:Nat):(followN c k).length≤2:=by
 unfold followN;cases(ofL c.op).1.ends
 ·cases(c.op==11)
  ·cases(ofL c.op).1.flow<;>simp
  ·simp
 ·simp
theorem ydX:∀(l:List Bool) (k:Nat),l[k]? =some false→ydY (l.set k true)+1=ydY l
 |[],_,h=>by simp at h
 |y::r,0,h=>by
  simp at h;subst h;simp only[List.set_cons_zero,ydY,znm,znl];omega
 |y::r,k+1,h=>by
  have:=ydX r k (by simpa using h);simp only[List.set_cons_succ,ydY];omega
theorem ybB:∀n:Nat,ydY (List.replicate n false)=n
 |0=>rfl
 |n+1=>by
  rw[List.replicate_succ,ydY,ybB n];simp;omega
structure RI (n f:Nat)(Rc:Nat→Prop)(seen:List Bool)(todo:List Nat):Prop where
 len:seen.length=n
 td:∀k∈todo,Rc k
 less:ydY seen+todo.length≤f
theorem RI.see {n f:Nat}{Rc:Nat→Prop}{seen:List Bool}{todo:List Nat}(I:RI n f Rc seen todo){x:Nat}(hx:seen[x]? =some false)(hr:Rc x):RI n f Rc (seen.set x true) (todo++[x]):=
 ⟨by simpa using I.len,fun k hk=>by
   simp only[List.mem_append,List.mem_singleton]at hk;rcases hk with hk|rfl
   ·exact I.td k hk
   ·exact hr,by
   have:=ydX seen x hx;have:=I.less;simp only[znk,zmh];omega⟩
end Go.Va
namespace Go.Proofs.YtpagmlndgblhhaaGreatDoor
open Go.RowKit Go.Own Go.Own.MapTy Go.Va Go.Sort
open Go.Own.Cells (sz enc)
theorem yk7:(Tryz.prog.info? 4).map (fun i=>(i.zero,i.size,i.bytes))=some (some (.bool false),1,1):=by kernel_rfl
theorem yc0 {F:Nat→Prop}{W:World}{ca:Option Addr}{n cc:Nat}{code:List In}(HC:RdF F W (.slice ca n cc) code){k:Nat}{c:In}(hc:code[k]? =some c):∃g off,ca=some ⟨g,off,none⟩∧g<W.heap.size∧W.cell? ⟨g,off+k*2,none⟩=some (.int .i64 c.op)∧W.cell? ⟨g,off+k*2+1,none⟩=some (.int .i64 c.a):=by
 obtain⟨rfl,hmx,g,off,had,hel⟩:=HC.elems;obtain⟨hFg,hg,hcs⟩:=hel k c hc;have had:=had.resolve_right (fun e=>by rw[e]at hc;simp at hc);exact⟨g,off,had,hg,hcs 0 _ rfl,hcs 1 _ rfl⟩
def yoy (W:World)(sb n:Nat)(Rc:Nat→Prop)(code:List In)(k0:Nat)(r:Bool)(gk:Nat)(v6:Value)(wr:World):Prop:=
 ∃(seen:List Bool) (todo:List Nat),RowAt wr 4 (.slice (some ⟨sb,0,none⟩) n n) seen∧RowAt wr 3 v6 todo∧(∀g,v6.ownBlock=some g→sb<g)∧RI n gk Rc seen todo∧yc6 code k0 gk seen todo=r∧Below W.heap.size W wr∧sb<wr.heap.size∧gk≤n+1
def yoz (W:World)(sb n:Nat)(Rc:Nat→Prop)(code:List In)(k0 f:Nat)(fv:Value)(fl:List Nat)(R:Option (List Bool×List Nat))(gk:Nat)(v41 v6:Value)(wr:World):Prop:=
 ∃(i:Nat) (seen:List Bool) (todo:List Nat),v41= .int .i64 i∧i≤fl.length∧gk=fl.length - i∧RowAt wr 4 (.slice (some ⟨sb,0,none⟩) n n) seen∧RowAt wr 3 v6 todo∧(∀g,v6.ownBlock=some g→sb<g∧fv.ownBlock≠some g)∧RI n f Rc seen todo∧yaZ code k0 (fl.drop i) seen todo=R∧RowAt wr 3 fv fl∧Below W.heap.size W wr
theorem yjh (b:Nat)(F:Nat→Prop)(ca:Option Addr)(n cc:Nat)(code:List In)(W:World)(q0:W.cell? ⟨b,0,none⟩=some (.slice ca n cc))(hbl:b<W.heap.size)(HC:RdF F W (.slice ca n cc) code)(OK:CodeOk code)(Rc:Nat→Prop)(hcl:∀k,Rc k→k<code.length∧∀x∈yaq code k,Rc x)(k0:Nat)(hk0:Rc k0)(r:Bool)(hr:roundL code k0=r):
  Calls Tryz.prog 96 #[.pointer (some ⟨b,0,none⟩),.int .i64 k0] W fun e w'=>e= .returned (.bool r)∧Below W.heap.size W w':=by
 have hnc:=HC.elems.1;obtain⟨i0,hi,hz,hs,hby⟩:=info_parts yk7;have hn512:=OK.len;rw[←hnc]at hn512;obtain⟨cs,hmk,hcs⟩:=yen (P:=Tryz.prog) (t:=23) Tryz.underlying23 hi hz hs hby n (by omega);obtain⟨c,hc⟩:=yad (hcl k0 hk0).1;obtain⟨g,off,rfl,hg,m0,m1⟩:=yc0 HC hc;have hkn:(k0:Int)<n:=by have:=(hcl k0 hk0).1;omega
 have HS:=zh6 HC OK hcl hk0 hcs hnc;have QQ:=zhd q0;unfold roundL yao at hr;rw[hc]at hr;dsimp only at hr;obtain⟨op,a⟩:=c;dsimp only at m0 m1;have RE:=zhd (ydI op a);generalize restsL ⟨op,a⟩=rs at*;clear HC OK hcl hcs hnc hc hi hz hs hby i0 hk0;go_enter Tryz.func96,Tryz.ntmps96;go_wp2_with fail;refine(RE.o _).mono ?_;rintro e w1 ⟨rfl,hB1⟩;clear RE;cases rs with
 |true=>
  simp only[znm]at hr;subst hr;go_wp2_with fail;go_ret;exact⟨rfl,hB1⟩
 |false=>
  simp only[znl]at hr;have HR:=zh2 hr hB1;have q0:=(hB1.cell (p:=⟨b,0,none⟩) hbl).trans q0;have hbl1:b<w1.heap.size:=znj hbl hB1.size;clear hr hB1 m0 m1 hkn;go_wp2_with fail;obtain⟨W2,hW2⟩:∃W2,W2=(w1.alloc (.cells cs 4)).alloc (.cells #[.int .i64 k0] 3):=⟨_,rfl⟩;have B2:Below W.heap.size W W2:=by rw[hW2];exact(HR.o.2.alloc HR.o.2.size _).alloc (by have:=HR.o.2.size;simp;omega) _
  have s2:RowAt W2 4 (.slice (some ⟨w1.heap.size,0,none⟩) n n) (List.replicate n false):=by rw[hW2];exact RowAt.frame (w:=w1.alloc (.cells cs 4)) (RowAt.made (znb w1 _) HS.o.2.2.2.2.1 (by simp) (by unfold maxLen;omega)) (fun g h=>by cases h;exact zne _ _ _ (by simp))
  have t2:RowAt W2 3 (.slice (some ⟨w1.heap.size+1,0,none⟩) 1 1) [k0]:=by rw[hW2];exact RowAt.made yar rfl rfl (by decide)
  have l2:w1.heap.size<W2.heap.size:=by rw[hW2];simp;omega
  rw[←hW2];have H2:=zh4 B2 s2 t2 l2;clear hW2 B2 s2 t2 l2 q0 hbl1 hmk;go_loopg [6] (n+1) (fun gk v6 wr=>yoy W w1.heap.size n Rc code k0 r gk v6 wr)
  case atStart=>
   refine⟨List.replicate n false,[k0],H2.o.2.1,H2.o.2.2.1,(fun g h=>by cases h;exact Nat.lt_succ_self _),⟨by simp,fun k hk=>by rw[List.mem_singleton.1 hk];exact HS.o.2.2.2.1,by rw[ybB];simp⟩,?_,H2.o.1,H2.o.2.2.2,znc _⟩;have:=HR.o.1;rwa[←HS.o.2.2.2.2.2]at this
  case round=>
   obtain⟨seen,todo,hS,hT,hTo,hI,hF,hB,hl,hg1⟩:=hrel;obtain⟨ta,tc,rfl⟩:=hT.slice;have hcase:todo=[]∨∃k rr,todo=k::rr:=by cases todo<;>simp
   rcases hcase with hto|⟨k,rr,hto⟩
   ·have hr:false=r:=by
     cases gk with
     |zero=>exact hF
     |succ f=>rw[hto,yc6]at hF;exact hF
    subst hr;subst hto;have HX:=zhd hB;clear hS hT hTo hI hF hB hl hg1;go_wp2_with fail;go_ret;exact⟨rfl,HX.o⟩
   ·obtain⟨f,rfl⟩:∃f,gk=f+1:=⟨gk - 1,by have:=hI.less;rw[hto]at this;simp at this;omega⟩
    rw[hto,yc6]at hF;have hk0:todo[0]? =some k:=by rw[hto];rfl
    have hRk:=hI.td k (by rw[hto];exact zmf ..);obtain⟨hkl,hkf⟩:=HS.o.2.2.1 k hRk;obtain⟨c,hc⟩:=yad hkl;have hcm:=zmg hc;obtain⟨tg,toff,rfl,htg⟩:=hT.addr hk0;have t0:=ydH hT hk0;rw[Nat.add_zero]at t0;have hlen:todo.length=rr.length+1:=by rw[hto];rfl
    obtain⟨ad',cR,rT,oT⟩:=yd6 ylk hT (k:=1) (by omega);rw[show((1:Nat):Int)=1 from rfl]at cR;rw[show todo.drop 1=rr from by rw[hto];rfl]at rT;have hpos:(0:Int)<todo.length:=by omega
    have I2:RI n f Rc seen rr:=⟨hI.len,fun j hj=>hI.td j (by rw[hto];exact zme _ hj),by have:=hI.less;rw[hlen]at this;omega⟩;have hfa:yaq code k=followN c k:=by unfold yaq;rw[hc]
    rw[hfa]at hF hkf;have FO:=zhd (ycV (HS.o.1.keep (S:=fun _=>False) (zkb hB) (fun _ _ f=>f)) k c hc (HS.o.2.1.a0 c hcm) (by have:=HS.o.2.1.len;omega));have hfl:=ydZ c k;generalize followN c k=fl at*;have q0:=(hB.cell (p:=⟨b,0,none⟩) hbl).trans QQ.o;have hbr:b<wr.heap.size:=znj hbl hB.size;have HX:=zh8 hF hkf I2 hS rT (fun g hg=>hTo g (oT g hg)) hB (zai hl hg1);clear hF hkf I2 hS rT hTo oT hB hl hg1 hT hI hto hlen hfa hcm hc hkl hRk hk0;go_wp2_with fail;refine FO.o.mono ?_;rintro e w5 ⟨fv,rfl,hfr,hff,hB5⟩;obtain⟨fa,fc,rfl⟩:=hfr.slice;obtain⟨R,hR⟩:∃R,yaZ code k0 fl seen rr=R:=⟨_,rfl⟩;have BW5:=HX.o.2.2.2.2.2.2.1.trans (hB5.mono HX.o.2.2.2.2.2.2.1.size);have HF:=zh5 hfr hff hB5 hR BW5;clear hfr hff hB5 hR FO BW5;go_wp2_with fail;go_loopg [41,6] (fl.length) (fun gk v41 v6 wz=>yoz W w1.heap.size n Rc code k0 f (.slice fa fl.length fc) fl R gk v41 v6 wz)
    case atStart=>
     exact⟨0,seen,rr,rfl,znq _,rfl,HX.o.2.2.2.1.below HF.o.2.2.1,HX.o.2.2.2.2.1.below HF.o.2.2.1,fun g hg=>⟨HX.o.2.2.2.2.2.1 g hg,fun e=>by have:=HF.o.2.1 g e;have:=HX.o.2.2.2.2.1.lt hg;omega⟩,HX.o.2.2.1,HF.o.2.2.2.1,HF.o.1,HF.o.2.2.2.2⟩
    case round=>
     obtain⟨i,seen',todo',rfl,hi,hgk,hS,hT,hTo,hI,hRi,hfr,hB⟩:=hrel;by_cases hin:i<fl.length
     ·obtain⟨y,hy⟩:=yad hin
      have hdr:fl.drop i=y::fl.drop (i+1):=by
       rw[znr (zge hy).1,(zge hy).2]
      rw[hdr,yaZ]at hRi;have hRy:=HX.o.2.1 y (zmg hy);obtain⟨hyl,_⟩:=HS.o.2.2.1 y hRy;obtain⟨fg,foff,rfl,hfg⟩:=hfr.addr hy;have z0:=ydH hfr hy;have hin':(i:Int)<fl.length:=by omega
      have hwi:IntKind.i64.wrap ((i:Int)+1)=(i:Int)+1:=zmk _ (by omega);obtain⟨bx,hbx⟩:=yad (l:=seen') (k:=y) (by rw[hI.len,HS.o.2.2.2.2.2];exact hyl);rw[List.getD_eq_getElem?_getD,hbx,Option.getD_some]at hRi;have s0:=ykK hS hbx;rw[Nat.zero_add]at s0;have hsl:w1.heap.size<wr.heap.size:=hS.lt rfl;have hyn:(y:Int)<n:=by have:=HS.o.2.2.2.2.2;omega
      obtain⟨c2,hc2⟩:=yad hyl;have q0:=(hB.cell (p:=⟨b,0,none⟩) hbl).trans QQ.o;have hbr:b<wr.heap.size:=znj hbl hB.size;obtain⟨_,_,hgg,hg2,m0,m1⟩:=yc0 (HS.o.1.keep (S:=fun _=>False) (zkb hB) (fun _ _ f=>f)) hc2;cases hgg;have hra:yao code y=restsL c2:=by unfold yao;rw[hc2]
      rw[hra]at hRi;obtain⟨op2,a2⟩:=c2;dsimp only at m0 m1;have RE:=zhd (ydI op2 a2);generalize restsL ⟨op2,a2⟩=rs at*;have HY:=zh8 hgk hS hT hTo hI hfr hB (zai hbx hRy);clear hgk hS hT hTo hI hfr hB hbx hRy hdr hy hc2 hra hyl;cases hyk:(y==k0)with
      |true=>
       have hyk':((y:Int)==(k0:Int))=true:=by
        rw[beq_iff_eq]at hyk⊢;omega
       rw[hyk]at hRi;simp only[znm]at hRi;have hr:=HX.o.1;rw[HF.o.2.2.2.1,←hRi]at hr;subst hr;clear hyk hRi;go_wp2_with fail;go_ret;exact⟨rfl,HY.o.2.2.2.2.2.2.1⟩
      |false=>
       have hyk':((y:Int)==(k0:Int))=false:=by
        rw[zna]at hyk⊢;omega
       rw[hyk]at hRi;simp only[znl]at hRi;clear hyk;cases bx with
       |true=>
        simp only[Bool.not_true,Bool.false_and,znl]at hRi;have HZ:=zhd hRi;clear hRi;go_wp2_with fail;go_roundg (fl.length - (i+1))
        case measure=>have:=HY.o.1;omega
        case rel=>exact⟨i+1,seen',todo',by simp,by omega,rfl,HY.o.2.1,HY.o.2.2.1,HY.o.2.2.2.1,HY.o.2.2.2.2.1,HZ.o,HY.o.2.2.2.2.2.1,HY.o.2.2.2.2.2.2.1⟩
       |false=>
        go_wp2_with fail;refine(RE.o _).mono ?_;rintro e w7 ⟨rfl,hB7⟩;have H7:=zhd hB7;have s0:=(hB7.cell (p:=⟨w1.heap.size,y,none⟩) hsl).trans s0;have hsl:w1.heap.size<w7.heap.size:=znj hsl hB7.size;clear hB7 m0 m1 q0 z0;cases rs with
        |true=>
         simp only[Bool.not_true,Bool.not_false,Bool.true_and,znl]at hRi;have HZ:=zhd hRi;clear hRi;go_wp2_with fail;go_roundg (fl.length - (i+1))
         case measure=>have:=HY.o.1;omega
         case rel=>exact⟨i+1,seen',todo',by simp,by omega,rfl,HY.o.2.1.below H7.o,HY.o.2.2.1.below H7.o,HY.o.2.2.2.1,HY.o.2.2.2.2.1,HZ.o,HY.o.2.2.2.2.2.1.below H7.o,HY.o.2.2.2.2.2.2.1.trans (H7.o.mono HY.o.2.2.2.2.2.2.1.size)⟩
        |false=>
         simp only[Bool.not_false,Bool.and_self,znm]at hRi;have HZ:=zhd hRi;clear hRi;obtain⟨za,zc,rfl⟩:=HY.o.2.2.1.slice;have hlt:todo'.length≤600:=by have:=HY.o.2.2.2.2.1.less;have:=HX.o.2.2.2.2.2.2.2.2;omega
         have S7:=(HY.o.2.1.below H7.o).setOne HY.o.2.2.2.2.2.2.2.1 (y:=true) (j:=0) (u:=.bool true) (by decide) rfl;rw[show 0+(y*sz Bool+0)=y from by simp[Cells.sz]]at S7;have K8:Keeps (fun j=>j=w1.heap.size) w7 (w7.setCell ⟨w1.heap.size,y,none⟩ (.bool true)):=Keeps.setCell (S:=fun j=>j=w1.heap.size) (p:=⟨w1.heap.size,y,none⟩) (Keeps.refl _ _) (.inl rfl) _;have T7:=(HY.o.2.2.1.below H7.o).keep K8 (fun g hg e=>by have:=(HY.o.2.2.2.1 g hg).1;omega);have fz:∀o,w7.frozen? ⟨w1.heap.size,o,none⟩=false:=fun o=>(HY.o.2.1.below H7.o).frozen o;have AN:=zhd (show((w7.setCell ⟨w1.heap.size,y,none⟩ (.bool true)).alloc (.cells #[.int .i64 y] 3)).heap[w7.heap.size]? =some (.cells (Cells.enc y).toArray 3 (0,0))from by
          have:=znb (w7.setCell ⟨w1.heap.size,y,none⟩ (.bool true)) (.cells #[.int .i64 y] 3);rwa[yb4]at this)
         have HA:=zh3 S7 T7 K8;clear S7 T7 K8;go_wp2_with (at_builtin;go_must (refine ybR (α:=Nat) ylk rfl (.tmp 67) (.tmp 69) rfl (HA.o.2.1.alloc _) y rfl rfl AN.o (by omega) (by unfold maxLen;omega) ?_);intro a1 q1 w8 hr1 hk1 hf1;have H8:=zh3 hr1 hk1 hf1;clear hr1 hk1 hf1);go_roundg (fl.length - (i+1))
         case measure=>have:=HY.o.1;omega
         case rel=>
          have hsb:∀g,(Value.slice (some ⟨w1.heap.size,0,none⟩) n n).ownBlock=some g→g=w1.heap.size:=fun g h=>(Option.some.inj h).symm;have hV6:=HY.o.2.2.2.1;have hWs:=HR.o.2.size;have hfb:∀g,(Value.slice (some ⟨fg,foff,none⟩) fl.length fc).ownBlock=some g→g<wr.heap.size:=fun g h=>HY.o.2.2.2.2.2.1.lt h;have hfw:=HF.o.2.1;have h7:=H7.o.size;have h67:=HX.o.2.2.2.2.2.2.2.1;refine⟨i+1,seen'.set y true,todo'++[y],by simp,by omega,rfl,(HA.o.1.alloc _).keep H8.o.2.1 (fun g hg e=> ?_),H8.o.1,fun g hg=> ?_,HY.o.2.2.2.2.1.see HY.o.2.2.2.2.2.2.2.1 HY.o.2.2.2.2.2.2.2.2,HZ.o,(((HY.o.2.2.2.2.2.1.below H7.o).keep HA.o.2.2 (fun g hg e=> ?_)).alloc _).keep H8.o.2.1 (fun g hg e=> ?_),?_⟩
          ·have:=hsb g hg
           have:=(hV6 g e).1;omega
          ·rcases H8.o.2.2 g hg with h|h
           ·exact hV6 g h
           ·have h9:w7.heap.size+1≤g:=by simpa[yb4]using h
            exact⟨by omega,fun e=>by have:=hfb g e;omega⟩
          ·have:=hfw g hg
           omega
          ·exact(hV6 g e).2 hg
          ·exact HY.o.2.2.2.2.2.2.1.trans ((H7.o.mono HY.o.2.2.2.2.2.2.1.size).trans ((HA.o.2.2.below (by have:=HY.o.2.2.2.2.2.2.1.size;omega) (fun j hj e=>by omega)).trans (((znv _ _).alloc (by have:=HY.o.2.2.2.2.2.2.1.size;simp;omega) _).trans (H8.o.2.1.below (by have:=HY.o.2.2.2.2.2.2.1.size;simp;omega) (fun j hj e=>by have:=(hV6 j e).1;omega)))))
     ·obtain rfl:i=fl.length:=by omega
      rw[zns (znc _),yaZ]at hRi;have hr:=HX.o.1;rw[HF.o.2.2.2.1,←hRi]at hr;have HZ:=zh6 hr hS hT hTo hI hB;clear hr hRi hS hT hTo hI hB hfr;go_wp2_with fail;go_roundg f
      case measure=>omega
      case rel=>exact⟨seen',todo',HZ.o.2.1,HZ.o.2.2.1,fun g hg=>(HZ.o.2.2.2.1 g hg).1,HZ.o.2.2.2.2.1,HZ.o.1,HZ.o.2.2.2.2.2,HZ.o.2.1.lt rfl,by have:=HX.o.2.2.2.2.2.2.2.2;omega⟩
end Go.Proofs.YtpagmlndgblhhaaGreatDoor
namespace Go.Va
open Go.Own Go.RowKit
def spF (code:List In):Nat→Nat→Nat
 |0,_=>0
 |f+1,k=>bif yao code k then 1 else(yaq code k).foldl (fun n x=>max n (spF code f x)) 0+1
def dnF (code:List In):Nat→Nat→Prop
 |0,_=>False
 |f+1,k=>yao code k=true∨∀x∈yaq code k,dnF code f x
theorem yd0 {α β:Type}{g h:α→β→α}:∀(l:List β) (a:α),(∀x∈l,∀a,g a x=h a x)→l.foldl g a=l.foldl h a
 |[],_,_=>rfl
 |x::r,a,hx=>by
  rw[List.foldl_cons,List.foldl_cons,hx x (zmf ..)];exact yd0 r _ (fun y hy=>hx y (zme _ hy))
theorem yd5 {code:List In}:∀{f g k:Nat},dnF code f k→f≤g→dnF code g k∧spF code g k=spF code f k
 |0,_,_,h,_=>h.elim
 |f+1,0,_,_,hg=>by omega
 |f+1,g+1,k,h,hg=>by
  rw[dnF]at h;rw[dnF,spF,spF];cases hr:yao code k with
  |true=>exact⟨.inl rfl,rfl⟩
  |false=>
   have h:=h.resolve_left (fun e=>by rw[hr]at e;cases e);refine⟨.inr (fun x hx=>(yd5 (h x hx) (by omega:f≤g)).1),?_⟩;simp only[znl];rw[yd0 (h:=fun n x=>max n (spF code f x)) _ _ (fun x hx a=>by rw[(yd5 (h x hx) (by omega:f≤g)).2])]
theorem ymz {code:List In}{f g k:Nat}(h:dnF code f k)(h':dnF code g k):spF code f k=spF code g k:=by
 rcases Nat.le_total f g with e|e
 ·exact(yd5 h e).2.symm
 ·exact(yd5 h' e).2
theorem yda {g:Nat→Nat}{b:Nat}:∀(l:List Nat) (a:Nat),a≤b→(∀x∈l,g x≤b)→l.foldl (fun n x=>max n (g x)) a≤b
 |[],_,h,_=>h
 |x::r,a,h,hx=>by
  rw[List.foldl_cons];exact yda r _ (by have:=hx x (zmf ..);omega) (fun y hy=>hx y (zme _ hy))
theorem yfm (code:List In):∀f k:Nat,spF code f k≤f
 |0,_=>znc _
 |f+1,k=>by
  rw[spF];cases yao code k
  ·simp only[znl]
   have:=yda (g:=spF code f) (b:=f) (yaq code k) 0 (by omega) (fun x _=>yfm code f x);omega
  ·simp
theorem yja {code:List In}{f k:Nat}(h:dnF code f k):0<spF code f k:=by
 cases f with
 |zero=>exact h.elim
 |succ f=>
  rw[spF];cases yao code k<;>simp
def KN (code:List In)(known:List Int):Prop:=∀(i:Nat) (v:Int),known[i]? =some v→0≤v∧(0<v→∃f,dnF code f i∧v=spF code f i)
theorem KN.set {code:List In}{known:List Int}(h:KN code known){f k:Nat}(hd:dnF code f k):KN code (known.set k (spF code f k)):=by
 intro i v hv;rw[List.getElem?_set]at hv;by_cases e:k=i
 ·subst e
  simp only[if_pos]at hv;split at hv
  ·cases hv
   exact⟨by omega,fun _=>⟨f,hd,rfl⟩⟩
  ·cases hv
 ·rw[if_neg e]at hv
  exact h i v hv
end Go.Va
namespace Go.Proofs.YtpagmlndgblhhaaGreatDoor
open Go.RowKit Go.Own Go.Own.MapTy Go.Va Go.Sort
open Go.Own.Cells (sz enc)
def ynA (W:World)(kv:Value)(kb n:Nat)(code:List In)(r:Nat)(e:Ending)(w':World):Prop:=
 e= .returned (.int .i64 r)∧Hid (∃known,RowAt w' 3 kv known∧known.length=n∧KN code known∧Keeps (fun j=>j=kb) W w')
def yov (W:World)(kv:Value)(kb n:Nat)(code:List In)(f:Nat)(fv:Value)(fl:List Nat)(tot:Nat)(gk:Nat)(v35 v7:Value)(wr:World):Prop:=
 ∃(i m:Nat) (known:List Int),v35= .int .i64 i∧v7= .int .i64 m∧i≤fl.length∧gk=fl.length - i∧m≤f∧(fl.drop i).foldl (fun n x=>max n (spF code f x)) m=tot∧RowAt wr 3 kv known∧known.length=n∧KN code known∧Keeps (fun j=>j=kb) W wr∧RowAt wr 3 fv fl
theorem ykD (b:Nat)(F:Nat→Prop)(ca:Option Addr)(n cc:Nat)(code:List In)(OK:CodeOk code)(Rc:Nat→Prop)(hcl:∀k,Rc k→k<code.length∧∀x∈yaq code k,Rc x)(kb koff kc:Nat)(hkb:¬b=kb)(hF:∀j,F j→j≠kb):
  ∀(f k:Nat) (W:World) (known:List Int),f≤600→dnF code f k→Rc k→W.cell? ⟨b,0,none⟩=some (.slice ca n cc)→b<W.heap.size→RdF F W (.slice ca n cc) code→RowAt W 3 (.slice (some ⟨kb,koff,none⟩) n kc) known→known.length=n→KN code known→
  Calls Tryz.prog 97 #[.pointer (some ⟨b,0,none⟩),.int .i64 k,.slice (some ⟨kb,koff,none⟩) n kc] W (ynA W (.slice (some ⟨kb,koff,none⟩) n kc) kb n code (spF code f k)):=by
 intro f
 induction f with
 |zero=>exact fun _ _ _ _ h=>h.elim
 |succ f ih=>
  intro k W known hf hd hRk q0 hbl HC RK hkl hKN;have IH:=zhd ih;have hnc:=HC.elems.1;obtain⟨hkc,hkf⟩:=hcl k hRk;obtain⟨c,hc⟩:=yad hkc;have hcm:=zmg hc;obtain⟨g,off,rfl,hg,m0,m1⟩:=yc0 HC hc;obtain⟨v,hv⟩:=yad (l:=known) (k:=k) (by omega);have s0:=ycR RK hv;have hkbl:kb<W.heap.size:=RK.lt rfl;have hkn:(k:Int)<n:=by omega
  have fz:∀o,W.frozen? ⟨kb,o,none⟩=false:=fun o=>RK.frozen o;have HS:=zh7 HC RK hkl hKN hd hkf hnc;have QQ:=zhd q0;have hKv:=hKN k v hv;have hra:yao code k=restsL c:=by unfold yao;rw[hc]
  have hfa:yaq code k=followN c k:=by unfold yaq;rw[hc]
  have hsp:spF code (f+1) k=bif restsL c then 1 else(followN c k).foldl (fun n x=>max n (spF code f x)) 0+1:=by rw[spF,hra,hfa]
  have hdd:restsL c=true∨∀x∈followN c k,dnF code f x:=by have:=hd;rwa[dnF,hra,hfa]at this
  rw[hfa]at hkf;have FO:=zhd (fun W' (K:Keeps (fun j=>j=kb) W W')=>ycV (HC.keep K (fun j hj e=>hF j hj e)) k c hc (OK.a0 c hcm) (by have:=OK.len;omega));have hfl:=ydZ c k;clear HC RK hkl hKN hnc hcm ih;by_cases hv0:0<v
  ·have hr:v=((spF code (f+1) k:Nat):Int):=by
    obtain⟨f',h1,h2⟩:=hKv.2 hv0;rw[h2,ymz h1 hd]
   have HR:=zhd hr;clear hr hsp hdd hd hKv hkf hra hfa hfl;go_enter Tryz.func97,Tryz.ntmps97;go_wp2_with fail;go_ret;exact⟨by rw[←HR.o];rfl,zhd ⟨known,HS.o.2.1,HS.o.2.2.1,HS.o.2.2.2.1,Keeps.refl _ _⟩⟩
  ·have hHV:=zh2 hv hKv
   obtain⟨op,a⟩:=c;dsimp only at m0 m1;have RE:=zhd (ydI op a);generalize restsL ⟨op,a⟩=rs at*;generalize followN ⟨op,a⟩ k=fl at*;have HD:=zh4 hsp hdd hkf hd;clear hd hsp hdd hkf hra hfa hv hKv hc;go_enter Tryz.func97,Tryz.ntmps97;go_wp2_with fail;refine(RE.o _).mono ?_;rintro e w1 ⟨rfl,hB1⟩;have K1:Keeps (fun j=>j=kb) W w1:=(zkb hB1 (S:=fun _=>False)).mono (fun _ _ f=>f.elim);have s0:=(hB1.cell (p:=⟨kb,koff+k,none⟩) hkbl).trans s0;have fz:∀o,w1.frozen? ⟨kb,o,none⟩=false:=fun o=>(HS.o.2.1.below hB1).frozen o;have q0:=(hB1.cell (p:=⟨b,0,none⟩) hbl).trans q0;have hbl1:b<w1.heap.size:=znj hbl hB1.size;have hkbl1:kb<w1.heap.size:=znj hkbl hB1.size;have H1:=zh2 hB1 K1;clear hB1 K1 m0 m1 RE;cases rs with
   |true=>
    have hr:=HD.o.1;simp only[znm]at hr;have KS:=(HS.o.2.2.2.1).set HD.o.2.2.2;rw[hr]at KS;have S7:=(HS.o.2.1.below H1.o.1).setOne hHV.o.1 (y:=1) (j:=0) (u:=.int .i64 1) (by decide) rfl;rw[show koff+(k*sz Int+0)=koff+k from by simp[Cells.sz]]at S7;have HR:=zh3 hr KS S7;clear hr KS S7;go_wp2_with fail;go_ret;refine⟨by rw[HR.o.1];rfl,zhd ⟨_,HR.o.2.2,by simpa using HS.o.2.2.1,HR.o.2.1,H1.o.2.trans (Keeps.setCell (S:=fun j=>j=kb) (p:=⟨kb,koff+k,none⟩) (Keeps.refl _ _) (.inl rfl) _) (fun j _ e=>e)⟩⟩
   |false=>
    have hr:=HD.o.1;simp only[znl]at hr;have hdx:=HD.o.2.1.resolve_left (by simp);have HR:=zh2 hr hdx;clear hr hdx;go_wp2_with fail;refine(FO.o _ H1.o.2).mono ?_;rintro e w5 ⟨fv,rfl,hfr,hff,hB5⟩;obtain⟨fa,fc,rfl⟩:=hfr.slice;obtain⟨tot,htot⟩:∃tot,fl.foldl (fun n x=>max n (spF code f x)) 0=tot:=⟨_,rfl⟩;have K5:=H1.o.2.trans ((zkb hB5 (S:=fun _=>False)).mono (T:=fun j=>j=kb) (fun _ _ f=>f.elim)) (fun j _ e=>e);have HF:=zh5 hfr hff hB5 htot K5;clear hfr hff hB5 htot FO K5;go_wp2_with fail;go_loopg [35,7] (fl.length) (fun gk v35 v7 wz=>yov W (.slice (some ⟨kb,koff,none⟩) n kc) kb n code f (.slice fa fl.length fc) fl tot gk v35 v7 wz)
    case atStart=>exact⟨0,0,known,rfl,rfl,znq _,rfl,znq _,HF.o.2.2.2.1,(HS.o.2.1.below H1.o.1).below HF.o.2.2.1,HS.o.2.2.1,HS.o.2.2.2.1,HF.o.2.2.2.2,HF.o.1⟩
    case round=>
     obtain⟨i,m,kn,rfl,rfl,hi,hgk,hm,htot,hK,hkl,hKN,hKp,hfr⟩:=hrel;by_cases hin:i<fl.length
     ·obtain⟨y,hy⟩:=yad hin
      have hdr:fl.drop i=y::fl.drop (i+1):=by
       rw[znr (zge hy).1,(zge hy).2]
      rw[hdr,List.foldl_cons]at htot;obtain⟨fg,foff,rfl,hfg⟩:=hfr.addr hy;have z0:=ydH hfr hy;have hin':(i:Int)<fl.length:=by omega
      have hwi:IntKind.i64.wrap ((i:Int)+1)=(i:Int)+1:=zmk _ (by omega);have hym:=zmg hy;have q0:=(hKp.cell (p:=⟨b,0,none⟩) hbl hkb).trans QQ.o;have hbr:b<wr.heap.size:=znj hbl hKp.size;have CS:=zhd (IH.o y wr kn (by omega) (HR.o.2 y hym) (HD.o.2.2.1 y hym) q0 hbr (HS.o.1.keep hKp (fun j hj e=>hF j hj e)) hK hkl hKN);have hle:=yfm code f y;generalize spF code f y=s at*;have HY:=zh4 hgk htot hKp hfr;clear hgk htot hKp hfr hdr hy hym hK hkl hKN;go_wp2_with fail;refine CS.o.mono ?_;rintro e w7 ⟨rfl,H7⟩;have hmx:max (m:Int) (s:Int)=((max m s:Nat):Int):=by omega
      have HM:=zhd hmx;clear hmx;go_wp2_with fail;go_roundg (fl.length - (i+1))
      case measure=>have:=HY.o.1;omega
      case rel=>
       obtain⟨kn',h1,h2,h3,h4⟩:=H7.o;exact⟨i+1,max m s,kn',by simp,by rw[←HM.o],by omega,rfl,by omega,HY.o.2.1,h1,h2,h3,HY.o.2.2.1.trans h4 (fun j _ e=>e),HY.o.2.2.2.keep h4 (fun j hj e=>by have:=HF.o.2.1 j hj;omega)⟩
     ·obtain rfl:i=fl.length:=by omega
      rw[zns (znc _),List.foldl_nil]at htot;subst htot;have hr:=HR.o.1;rw[HF.o.2.2.2.1]at hr;have KS:=hKN.set HD.o.2.2.2;rw[hr]at KS;obtain⟨v',hv'⟩:=yad (l:=kn) (k:=k) (by omega);have s0':=ycR hK hv';have fz':∀o,wr.frozen? ⟨kb,o,none⟩=false:=fun o=>hK.frozen o;have hkbr:kb<wr.heap.size:=znj hkbl hKp.size;have S7:=hK.setOne hv' (y:=((m+1:Nat):Int)) (j:=0) (u:=.int .i64 ((m+1:Nat):Int)) (by decide) rfl;rw[show koff+(k*sz Int+0)=koff+k from by simp[Cells.sz]]at S7;have hwm:IntKind.i64.wrap ((m:Int)+1)=((m+1:Nat):Int):=by rw[zmk _ (by omega)];omega
      obtain⟨p,hp⟩:∃p,((m+1:Nat):Int)=p:=⟨_,rfl⟩;rw[hp]at S7 hwm KS;have HY:=zh6 hr KS S7 hKp hkl hp;clear hr KS S7 hKp hKN hkl hp hK hfr hgk hv';go_wp2_with fail;go_ret;refine⟨by rw[HY.o.1,HY.o.2.2.2.2.2];rfl,zhd ⟨_,HY.o.2.2.1,by simpa using HY.o.2.2.2.2.1,HY.o.2.1,HY.o.2.2.2.1.trans (Keeps.setCell (S:=fun j=>j=kb) (p:=⟨kb,koff+k,none⟩) (Keeps.refl _ _) (.inl rfl) _) (fun j _ e=>e)⟩⟩
end Go.Proofs.YtpagmlndgblhhaaGreatDoor
