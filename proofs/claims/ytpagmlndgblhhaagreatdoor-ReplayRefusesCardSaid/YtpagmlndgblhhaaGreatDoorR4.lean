/- Parts of the proof: what the functions and the plain laws give that later parts lean on. Conditions: none beyond those that each theorem names. -/
import Derived.Test.YtpagmlndgblhhaaGreatDoorR3
set_option maxRecDepth 100000
set_option maxHeartbeats 8000000
namespace Go.Va
open Go.Own Go.RowKit
def yaf:Val→List UInt8
 | .mk k n s l=>UInt8.ofNat (k%256).toNat::(bif k==1 then ybX (zigL n)else bif k==2 then Go.Va.textB s.data.toList else bif k==3 then ybX l.length++bytesL l else[])
where bytesL:List Val→List UInt8
 |[]=>[]
 |x::r=>yaf x++bytesL r
theorem yaR (x:Val):yaf x=UInt8.ofNat (x.kind%256).toNat::(bif x.kind==1 then ybX (zigL x.num)else bif x.kind==2 then Go.Va.textB x.txt.data.toList else bif x.kind==3 then ybX x.list.length++yaf.bytesL x.list else[]):=by
 cases x;rw[yaf];rfl
theorem ybc (x:Val)(r:List Val):yaf.bytesL (x::r)=yaf x++yaf.bytesL r:=by rw[yaf.bytesL]
theorem yc3:yaf.bytesL []=[]:=by rw[yaf.bytesL]
theorem yeO {x:Val}:∀{l:List Val},x∈l→(yaf x).length≤(yaf.bytesL l).length
 |[],h=>by cases h
 |y::r,h=>by
  rw[ybc,znk];rcases List.mem_cons.1 h with rfl|h
  ·omega
  ·have:=yeO h;omega
def Val.wf:Val→Prop
 | .mk k n s l=>(-9223372036854775808≤k∧k≤9223372036854775807)∧(-9223372036854775808≤n∧n≤9223372036854775807)∧s.size≤140737488355328∧wfL l
where wfL:List Val→Prop
 |[]=>True
 |x::r=>x.wf∧wfL r
theorem Val.wf_eq (x:Val):x.wf↔(-9223372036854775808≤x.kind∧x.kind≤9223372036854775807)∧(-9223372036854775808≤x.num∧x.num≤9223372036854775807)∧x.txt.size≤140737488355328∧Val.wf.wfL x.list:=by
 cases x;rw[Val.wf];rfl
theorem Val.wfL_mem {x:Val}:∀{l:List Val},Val.wf.wfL l→x∈l→x.wf
 |[],_,h=>by cases h
 |y::r,hw,h=>by
  rw[Val.wf.wfL]at hw;rcases List.mem_cons.1 h with rfl|h
  ·exact hw.1
  ·exact Val.wfL_mem hw.2 h
theorem Val.wfL_iff:∀{l:List Val},Val.wf.wfL l↔∀x∈l,x.wf
 |[]=>by rw[Val.wf.wfL];simp
 |y::r=>by rw[Val.wf.wfL,Val.wfL_iff];simp
end Go.Va
namespace Go.Proofs.YtpagmlndgblhhaaGreatDoor
open Go.RowKit Go.Own Go.Own.MapTy Go.Va Go.Sort
open Go.Own.Cells (sz enc)
theorem yaJ {W:World}{b j:Nat}(hb:b<W.heap.size)(o:Obj):ybV (W.alloc o) b j↔ybV W b j:=by
 unfold ybV;rw[zne _ _ _ hb]
theorem yf9 (x:Val)
  (b:Nat)(l:List UInt8)(ck cn:Int)(cs:ByteArray)(la:Option Addr)(ln lc:Nat)(F:Nat→Prop)(w:World)(H:WB w b l)(C:CF F w ⟨ck,cn,cs,la,ln,lc⟩ x)(hF:∀j,F j→j≠b∧¬ybV w b j)(hw:x.wf)(hl:l.length+(yaf x).length+12≤1099511627776)(r:List UInt8)(hr:yaf x=r)
  (k1:(ck==1)=false)(k2:(ck==2)=false)(k3:(ck==3)=false):
  Calls Tryz.prog 60 #[.pointer (some ⟨b,0,none⟩),.agg #[.int .i64 ck,.int .i64 cn,.string cs,.slice la ln lc]] w (WPB w b (l++r))
  :=by
 have b0:=H.lt;have hck:ck=x.kind:=C.kind;have hcn:cn=x.num:=C.n;have hcs:cs=x.txt:=C.s;have hwf:=(Val.wf_eq x).1 hw;have hbl:=hr;rw[yaR]at hr;rw[hbl]at hl;have HC:=zh4 C hwf hbl hF;clear C hwf hbl hw hF;obtain⟨y,hy⟩:∃y,y=UInt8.ofNat (x.kind%256).toNat:=⟨_,rfl⟩;rw[←hy]at hr;have hyv:((ck%256):Int)=(y.toNat:Int):=by
  have h:(x.kind%256).toNat<256:=by omega
  rw[hy,UInt8.toNat_ofNat_of_lt' (by exact h)];omega
 have HY:=zhd hyv;clear hy hyv;rw[←hck,k1,k2,k3]at hr;simp only[znl]at hr;have HR:=zhd hr;clear hr hck hcn hcs;have H1:=H.alloc (.cells #[.int .i64 ck,.int .i64 cn,.string cs,.slice la ln lc] 38);have H2:=H1.1.alloc (.cells #[.int .u8 (ck%256)] 5);have hr0:∀j,ybV ((w.alloc (.cells #[.int .i64 ck,.int .i64 cn,.string cs,.slice la ln lc] 38)).alloc (.cells #[.int .u8 (ck%256)] 5)) b j→j<w.heap.size:=fun j hj=>(H.row ((yaJ b0 _).1 ((yaJ (by simp;omega) _).1 hj))).2;have CB:=zhd (show Calls Tryz.prog 105 #[.pointer (some ⟨b,0,none⟩),.slice (some ⟨w.heap.size+1,0,none⟩) 1 1] _ (WPB _ b (l++[y]))from ydr b l [y] (w.heap.size+1) 1 _ H2.1 (fun j u hu=>by
  rw[zch yar];cases j with
  |zero=>rw[HY.o];simpa[ydi]using hu
  |succ j=>simp at hu) (by simp;omega))
 have HK:=zh3 H1.2 H2.2 hr0;clear H1 H2 hr0;have HH:=zhd H;clear H;go_enter Tryz.func60,Tryz.ntmps60;go_wp2_with fail;refine CB.o.mono ?_;rintro e w2 ⟨rfl,HW2⟩;have q:∀o,w2.cell? ⟨w.heap.size,o,none⟩=(#[.int .i64 ck,.int .i64 cn,.string cs,.slice la ln lc]:Array Value)[o]? :=fun o=>by
  rw[HW2.o.2.cell (by simp;omega) (by omega) (fun h=>by have:=HK.o.2.2 _ h;omega),zch yaE]
 have q0:=q 0;have q1:=q 1;have q2:=q 2;have q3:=q 3;simp only[zmc,zma,zmb]at q0 q1 q2 q3;have K2:=zhd ((HK.o.1.trans HK.o.2.1).trans HW2.o.2);have sz2:w.heap.size+1<w2.heap.size:=by have:=HW2.o.2.1.size;simp at this;omega
 clear q CB;go_wp2_with fail
 go_end0
 exact⟨rfl,zhd ⟨by rw[←HR.o];exact HW2.o.1,K2.o⟩⟩
theorem yiX (x:Val)
  (b:Nat)(l:List UInt8)(ck cn:Int)(cs:ByteArray)(la:Option Addr)(ln lc:Nat)(F:Nat→Prop)(w:World)(H:WB w b l)(C:CF F w ⟨ck,cn,cs,la,ln,lc⟩ x)(hF:∀j,F j→j≠b∧¬ybV w b j)(hw:x.wf)(hl:l.length+(yaf x).length+12≤1099511627776)(r:List UInt8)(hr:yaf x=r)
  (k1:ck=1):
  Calls Tryz.prog 60 #[.pointer (some ⟨b,0,none⟩),.agg #[.int .i64 ck,.int .i64 cn,.string cs,.slice la ln lc]] w (WPB w b (l++r))
  :=by
 subst k1;have b0:=H.lt;have hck:1=x.kind:=C.kind;have hcn:cn=x.num:=C.n;have hcs:cs=x.txt:=C.s;have hwf:=(Val.wf_eq x).1 hw;have hbl:=hr;rw[yaR]at hr;rw[hbl]at hl;have HC:=zh4 C hwf hbl hF;clear C hwf hbl hw hF;obtain⟨y,hy⟩:∃y,y=UInt8.ofNat (x.kind%256).toNat:=⟨_,rfl⟩;rw[←hy]at hr;have hyv:(1:Int)=(y.toNat:Int):=by
  have h:(x.kind%256).toNat<256:=by omega
  rw[hy,UInt8.toNat_ofNat_of_lt' (by exact h)];omega
 have HY:=zhd hyv;clear hy hyv;rw[←hck]at hr;simp only[beq_self_eq_true,znm]at hr;have HR:=zhd hr;have hn:=HC.o.2.1.2.1;rw[←hcn]at hn hr;have HR:=zhd hr;clear hr hck hcn hcs;have H1:=H.alloc (.cells #[.int .i64 1,.int .i64 cn,.string cs,.slice la ln lc] 38);have H2:=H1.1.alloc (.cells #[.int .u8 1] 5);have hr0:∀j,ybV ((w.alloc (.cells #[.int .i64 1,.int .i64 cn,.string cs,.slice la ln lc] 38)).alloc (.cells #[.int .u8 1] 5)) b j→j<w.heap.size:=fun j hj=>(H.row ((yaJ b0 _).1 ((yaJ (by simp;omega) _).1 hj))).2;have CB:=zhd (show Calls Tryz.prog 105 #[.pointer (some ⟨b,0,none⟩),.slice (some ⟨w.heap.size+1,0,none⟩) 1 1] _ (WPB _ b (l++[y]))from ydr b l [y] (w.heap.size+1) 1 _ H2.1 (fun j u hu=>by
  rw[zch yar];cases j with
  |zero=>rw[HY.o];simpa[ydi]using hu
  |succ j=>simp at hu) (by simp;omega))
 have HK:=zh3 H1.2 H2.2 hr0;clear H1 H2 hr0;have HH:=zhd H;clear H;go_enter Tryz.func60,Tryz.ntmps60;go_wp2_with fail;refine CB.o.mono ?_;rintro e w2 ⟨rfl,HW2⟩;have q:∀o,w2.cell? ⟨w.heap.size,o,none⟩=(#[.int .i64 1,.int .i64 cn,.string cs,.slice la ln lc]:Array Value)[o]? :=fun o=>by
  rw[HW2.o.2.cell (by simp;omega) (by omega) (fun h=>by have:=HK.o.2.2 _ h;omega),zch yaE]
 have q0:=q 0;have q1:=q 1;have q2:=q 2;have q3:=q 3;simp only[zmc,zma,zmb]at q0 q1 q2 q3;have K2:=zhd ((HK.o.1.trans HK.o.2.1).trans HW2.o.2);have sz2:w.heap.size+1<w2.heap.size:=by have:=HW2.o.2.1.size;simp at this;omega
 clear q CB;have b2:=HW2.o.1.lt;have HA:=HW2.o.1.alloc (.cells #[.int .i64 cn] 2);have CI:=zhd (yml b (l++[y]) cn w2.heap.size 1 _ HA.1 (by rw[zch (znb _ _)];rfl) hn.1 hn.2 (by have h:=congrArg List.length HR.o;simp at h⊢;omega));clear hn;go_wp2_with fail;refine CI.o.mono ?_;rintro e w3 ⟨rfl,H3⟩;go_wp2_with fail
 go_end0
 refine⟨rfl,zhd ⟨?_,(K2.o.trans HA.2).trans H3.o.2⟩⟩;rw[←HR.o];have:=H3.o.1;rw[List.append_assoc]at this;exact this
theorem yhU (x:Val)
  (b:Nat)(l:List UInt8)(ck cn:Int)(cs:ByteArray)(la:Option Addr)(ln lc:Nat)(F:Nat→Prop)(w:World)(H:WB w b l)(C:CF F w ⟨ck,cn,cs,la,ln,lc⟩ x)(hF:∀j,F j→j≠b∧¬ybV w b j)(hw:x.wf)(hl:l.length+(yaf x).length+12≤1099511627776)(r:List UInt8)(hr:yaf x=r)
  (k1:ck=2):
  Calls Tryz.prog 60 #[.pointer (some ⟨b,0,none⟩),.agg #[.int .i64 ck,.int .i64 cn,.string cs,.slice la ln lc]] w (WPB w b (l++r))
  :=by
 subst k1;have b0:=H.lt;have hck:2=x.kind:=C.kind;have hcn:cn=x.num:=C.n;have hcs:cs=x.txt:=C.s;have hwf:=(Val.wf_eq x).1 hw;have hbl:=hr;rw[yaR]at hr;rw[hbl]at hl;have HC:=zh4 C hwf hbl hF;clear C hwf hbl hw hF;obtain⟨y,hy⟩:∃y,y=UInt8.ofNat (x.kind%256).toNat:=⟨_,rfl⟩;rw[←hy]at hr;have hyv:(2:Int)=(y.toNat:Int):=by
  have h:(x.kind%256).toNat<256:=by omega
  rw[hy,UInt8.toNat_ofNat_of_lt' (by exact h)];omega
 have HY:=zhd hyv;clear hy hyv;rw[←hck,←hcs]at hr;have e1:((2:Int)==1)=false:=rfl;rw[e1]at hr;simp only[beq_self_eq_true,znm,znl]at hr;have HR:=zhd hr;have hsz:l.length+1+cs.size+12≤1099511627776:=by
  have h:=congrArg List.length hr;simp[Go.Va.textB]at h;omega
 clear hr hck hcn hcs e1;have H1:=H.alloc (.cells #[.int .i64 2,.int .i64 cn,.string cs,.slice la ln lc] 38);have H2:=H1.1.alloc (.cells #[.int .u8 2] 5);have hr0:∀j,ybV ((w.alloc (.cells #[.int .i64 2,.int .i64 cn,.string cs,.slice la ln lc] 38)).alloc (.cells #[.int .u8 2] 5)) b j→j<w.heap.size:=fun j hj=>(H.row ((yaJ b0 _).1 ((yaJ (by simp;omega) _).1 hj))).2;have CB:=zhd (show Calls Tryz.prog 105 #[.pointer (some ⟨b,0,none⟩),.slice (some ⟨w.heap.size+1,0,none⟩) 1 1] _ (WPB _ b (l++[y]))from ydr b l [y] (w.heap.size+1) 1 _ H2.1 (fun j u hu=>by
  rw[zch yar];cases j with
  |zero=>rw[HY.o];simpa[ydi]using hu
  |succ j=>simp at hu) (by simp;omega))
 have HK:=zh3 H1.2 H2.2 hr0;clear H1 H2 hr0;have HH:=zhd H;clear H;go_enter Tryz.func60,Tryz.ntmps60;go_wp2_with fail;refine CB.o.mono ?_;rintro e w2 ⟨rfl,HW2⟩;have q:∀o,w2.cell? ⟨w.heap.size,o,none⟩=(#[.int .i64 2,.int .i64 cn,.string cs,.slice la ln lc]:Array Value)[o]? :=fun o=>by
  rw[HW2.o.2.cell (by simp;omega) (by omega) (fun h=>by have:=HK.o.2.2 _ h;omega),zch yaE]
 have q0:=q 0;have q1:=q 1;have q2:=q 2;have q3:=q 3;simp only[zmc,zma,zmb]at q0 q1 q2 q3;have K2:=zhd ((HK.o.1.trans HK.o.2.1).trans HW2.o.2);have sz2:w.heap.size+1<w2.heap.size:=by have:=HW2.o.2.1.size;simp at this;omega
 clear q CB;have CT:=zhd (yiW b (l++[y]) cs _ HW2.o.1 (by simp;omega));go_wp2_with fail;refine CT.o.mono ?_;rintro e w3 ⟨rfl,H3⟩;go_wp2_with fail
 go_end0
 refine⟨rfl,zhd ⟨?_,K2.o.trans H3.o.2⟩⟩;rw[←HR.o];have:=H3.o.1;rw[List.append_assoc]at this;exact this
def yph (w:World)(b:Nat)(x:Val)(L:List UInt8)(gk:Nat)(v39:Value)(wr:World):Prop:=
 ∃(i:Nat) (l1:List UInt8),v39= .int .i64 i∧i≤x.list.length∧gk=x.list.length - i∧WB wr b l1∧l1++yaf.bytesL (x.list.drop i)=L∧WK b w wr
theorem yew (n:Nat)(IH:∀(x:Val),x.parts≤n→∀(b:Nat) (l:List UInt8) (c:VC) (F:Nat→Prop) (w:World),WB w b l→CF F w c x→(∀j,F j→j≠b∧¬ybV w b j)→x.wf→l.length+(yaf x).length+12≤1099511627776→
   Calls Tryz.prog 60 #[.pointer (some ⟨b,0,none⟩),.agg #[.int .i64 c.kind,.int .i64 c.n,.string c.s,.slice c.la c.ln c.lc]] w (WPB w b (l++yaf x)))
  (x:Val)
  (b:Nat)(l:List UInt8)(ck cn:Int)(cs:ByteArray)(la:Option Addr)(ln lc:Nat)(F:Nat→Prop)(w:World)(H:WB w b l)(C:CF F w ⟨ck,cn,cs,la,ln,lc⟩ x)(hF:∀j,F j→j≠b∧¬ybV w b j)(hw:x.wf)(hl:l.length+(yaf x).length+12≤1099511627776)(r:List UInt8)(hr:yaf x=r)
  (k1:ck=3)(hx:x.parts≤n+1)(g off:Nat)
  (hel:ln=x.list.length∧ln≤maxLen∧(∀(i:Nat) (y:Val),x.list[i]? =some y→F g∧g<w.heap.size∧∃c,CF F w c y∧
    w.cell? ⟨g,off+i*4,none⟩=some (.int .i64 c.kind)∧w.cell? ⟨g,off+i*4+1,none⟩=some (.int .i64 c.n)∧w.cell? ⟨g,off+i*4+2,none⟩=some (.string c.s)∧w.cell? ⟨g,off+i*4+3,none⟩=some (.slice c.la c.ln c.lc)))(hla:la=some ⟨g,off,none⟩∨x.list=[]):
  Calls Tryz.prog 60 #[.pointer (some ⟨b,0,none⟩),.agg #[.int .i64 ck,.int .i64 cn,.string cs,.slice la ln lc]] w (WPB w b (l++r))
  :=by
 subst k1;have b0:=H.lt;have hck:3=x.kind:=C.kind;have hcn:cn=x.num:=C.n;have hcs:cs=x.txt:=C.s;have hwf:=(Val.wf_eq x).1 hw;have hbl:=hr;rw[yaR]at hr;rw[hbl]at hl;have HC:=zh4 C hwf hbl hF;clear C hwf hbl hw hF;obtain⟨y,hy⟩:∃y,y=UInt8.ofNat (x.kind%256).toNat:=⟨_,rfl⟩;rw[←hy]at hr;have hyv:(3:Int)=(y.toNat:Int):=by
  have h:(x.kind%256).toNat<256:=by omega
  rw[hy,UInt8.toNat_ofNat_of_lt' (by exact h)];omega
 have HY:=zhd hyv;clear hy hyv;rw[←hck]at hr;have e1:((3:Int)==1)=false:=rfl;have e2:((3:Int)==2)=false:=rfl;rw[e1,e2]at hr;simp only[beq_self_eq_true,znm,znl]at hr;obtain⟨hln,hlm,hel⟩:=hel;rw[←hln]at hr;have HR:=zhd hr;have HE:=zhd hel;have HL:=zhd hln;have HLA:=zhd hla;unfold maxLen at hlm;have HII:=zhd IH;clear hr hck hcn hcs e1 e2 hel hln IH hla;have H1:=H.alloc (.cells #[.int .i64 3,.int .i64 cn,.string cs,.slice la ln lc] 38);have H2:=H1.1.alloc (.cells #[.int .u8 3] 5);have hr0:∀j,ybV ((w.alloc (.cells #[.int .i64 3,.int .i64 cn,.string cs,.slice la ln lc] 38)).alloc (.cells #[.int .u8 3] 5)) b j→j<w.heap.size:=fun j hj=>(H.row ((yaJ b0 _).1 ((yaJ (by simp;omega) _).1 hj))).2;have CB:=zhd (show Calls Tryz.prog 105 #[.pointer (some ⟨b,0,none⟩),.slice (some ⟨w.heap.size+1,0,none⟩) 1 1] _ (WPB _ b (l++[y]))from ydr b l [y] (w.heap.size+1) 1 _ H2.1 (fun j u hu=>by
  rw[zch yar];cases j with
  |zero=>rw[HY.o];simpa[ydi]using hu
  |succ j=>simp at hu) (by simp;omega))
 have HK:=zh3 H1.2 H2.2 hr0;clear H1 H2 hr0;have HH:=zhd H;clear H;go_enter Tryz.func60,Tryz.ntmps60;go_wp2_with fail;refine CB.o.mono ?_;rintro e w2 ⟨rfl,HW2⟩;have q:∀o,w2.cell? ⟨w.heap.size,o,none⟩=(#[.int .i64 3,.int .i64 cn,.string cs,.slice la ln lc]:Array Value)[o]? :=fun o=>by
  rw[HW2.o.2.cell (by simp;omega) (by omega) (fun h=>by have:=HK.o.2.2 _ h;omega),zch yaE]
 have q0:=q 0;have q1:=q 1;have q2:=q 2;have q3:=q 3;simp only[zmc,zma,zmb]at q0 q1 q2 q3;have K2:=zhd ((HK.o.1.trans HK.o.2.1).trans HW2.o.2);have sz2:w.heap.size+1<w2.heap.size:=by have:=HW2.o.2.1.size;simp at this;omega
 clear q CB;have b2:=HW2.o.1.lt;have HA:=HW2.o.1.alloc (.cells #[.int .u64 ln] 188);have CN:=zhd (ygC b (l++[y]) ln w2.heap.size 1 _ HA.1 (by rw[zch (znb _ _)];rfl) (by omega) (by have h:=congrArg List.length HR.o;simp at h⊢;omega));go_wp2_with fail;refine CN.o.mono ?_;rintro e w3 ⟨rfl,H3⟩;have hr2:∀j,ybV (w2.alloc (.cells #[.int .u64 ln] 188)) b j→j<w.heap.size∨w.heap.size+2≤j:=fun j hj=>by
  rcases HW2.o.2.2 j ((yaJ b2 _).1 hj)with h|h
  ·exact .inl (HK.o.2.2 j h)
  ·simp at h;exact .inr h
 have q:∀o,w3.cell? ⟨w.heap.size,o,none⟩=w2.cell? ⟨w.heap.size,o,none⟩:=fun o=>by
  rw[H3.o.2.cell (by simp;omega) (by omega) (fun h=>by have:=hr2 _ h;omega)];exact znt (w:=w2) (zne _ _ _ (show w.heap.size<w2.heap.size by omega))
 rw[←q 0]at q0;rw[←q 1]at q1;rw[←q 2]at q2;rw[←q 3]at q3;have K3:=zhd ((K2.o.trans HA.2).trans H3.o.2);have hW3:=H3.o.1;clear q CN hr2 H3 HA HK K2;go_wp2_with fail;go_loopg [39] (x.list.length) (fun gk v39 wr=>yph w b x (l++r) gk v39 wr)
 case atStart=>exact⟨0,_,rfl,znq _,rfl,hW3,(by rw[←HR.o];simp),K3.o⟩
 case round=>
  clear q0 q1 q2 q3 hW3 K3;obtain⟨i,l1,rfl,hi,hgk,hW,he,hK⟩:=hrel;by_cases hin:i<ln
  ·obtain⟨z,hz⟩:=yad (l:=x.list) (k:=i) (by have:=HL.o;omega)
   obtain⟨hFg,hg,c',hC,q0,q1,q2,q3⟩:=HE.o i z hz;have hgF:=HC.o.2.2.2 g hFg;have hin':(i:Int)<ln:=by omega
   have hla:la=some ⟨g,off,none⟩:=HLA.o.resolve_right (fun e=>by rw[e]at hz;simp at hz);have szr:=hK.1.size;have b1:=hW.lt;rw[←hK.cell hg hgF.1 hgF.2]at q0 q1 q2 q3;have hdr:x.list.drop i=z::x.list.drop (i+1):=by
    rw[znr (zge hz).1,(zge hz).2]
   rw[hdr,ybc]at he;have hzm:=zmg hz;have hC':=(hC.mono (G:=fun j=>F j∧j<w.heap.size) (fun j h l=>⟨h,l⟩)).keep hK.1 (fun j h e=>e.elim (HC.o.2.2.2 j h.1).1 (HC.o.2.2.2 j h.1).2);have hHA:=hW.alloc (.cells #[.int .i64 c'.kind,.int .i64 c'.n,.string c'.s,.slice c'.la c'.ln c'.lc] 38);have hCA:=hC'.keep (S:=fun _=>False) ((Keeps.refl _ _).alloc (.cells #[.int .i64 c'.kind,.int .i64 c'.n,.string c'.s,.slice c'.la c'.ln c'.lc] 38)) (fun _ _ f=>f);have CA:=zhd (HII.o z (by have:=Val.parts_lt (v:=x) hzm;omega) b l1 c' _ _ hHA.1 hCA (fun j h=>⟨(HC.o.2.2.2 j h.1).1,fun hj=>by
    rcases hK.2 j ((yaJ b1 _).1 hj)with h1|h1
    ·exact(HC.o.2.2.2 j h.1).2 h1
    ·have:=h.2;omega⟩) (Val.wfL_mem HC.o.2.1.2.2.2 hzm) (by have h:=congrArg List.length he;simp at h;omega))
   have HX:=zh3 he (hK.trans hHA.2) hgk;subst hla;clear hW he hK hgk hC hC' hHA hCA hdr hz hzm;go_wp2_with fail;refine CA.o.mono ?_;rintro e w5 ⟨rfl,H5⟩;go_wp2_with fail;go_roundg (x.list.length - (i+1))
   case measure=>have:=HX.o.2.2;have:=HL.o;omega
   case rel=>exact⟨i+1,_,by simp,(by have:=HL.o;omega),rfl,H5.o.1,(by rw[List.append_assoc];exact HX.o.1),HX.o.2.1.trans H5.o.2⟩
  ·obtain rfl:i=ln:=by have:=HL.o;omega
   rw[zns (by have:=HL.o;omega),yc3,List.append_nil]at he;have HX:=zh3 he hW hK;clear hW he hK hgk;go_wp2_with fail
   go_end0
   exact⟨rfl,zhd ⟨by rw[←HX.o.1];exact HX.o.2.1,HX.o.2.2⟩⟩
theorem yds:∀(n:Nat) (x:Val),x.parts≤n→∀(b:Nat) (l:List UInt8) (c:VC) (F:Nat→Prop) (w:World),WB w b l→CF F w c x→(∀j,F j→j≠b∧¬ybV w b j)→x.wf→l.length+(yaf x).length+12≤1099511627776→
   Calls Tryz.prog 60 #[.pointer (some ⟨b,0,none⟩),.agg #[.int .i64 c.kind,.int .i64 c.n,.string c.s,.slice c.la c.ln c.lc]] w (WPB w b (l++yaf x))
 |0,x,hx,_,_,_,_,_,_,_,_,_,_=>by have:=x.parts_pos;omega
 |n+1,x,hx,b,l,⟨ck,cn,cs,la,ln,lc⟩,F,w,H,C,hF,hw,hl=>by
  by_cases k1:ck=1
  ·exact yiX x b l ck cn cs la ln lc F w H C hF hw hl _ rfl k1
  ·by_cases k2:ck=2
   ·exact yhU x b l ck cn cs la ln lc F w H C hF hw hl _ rfl k2
   ·by_cases k3:ck=3
    ·obtain⟨h4,h5,h6⟩:=C.l.elems
     rcases h6 with h6|⟨g,off,hla,hFg,hg,h6⟩
     ·exact yew n (fun y hy=>yds n y hy) x b l ck cn cs la ln lc F w H C hF hw hl _ rfl k3 hx 0 0 ⟨h4,h5,fun i y hy=>by rw[h6]at hy;simp at hy⟩ (.inr h6)
     ·exact yew n (fun y hy=>yds n y hy) x b l ck cn cs la ln lc F w H C hF hw hl _ rfl k3 hx g off ⟨h4,h5,fun i y hy=>⟨hFg,hg,h6 i y hy⟩⟩ (.inl hla)
    ·exact yf9 x b l ck cn cs la ln lc F w H C hF hw hl _ rfl (beq_eq_false_iff_ne.2 k1) (beq_eq_false_iff_ne.2 k2) (beq_eq_false_iff_ne.2 k3)
end Go.Proofs.YtpagmlndgblhhaaGreatDoor
namespace Go.Va
open Go.Own Go.RowKit
def cmpV:Val→Val→Int
 | .mk k n s l,y=>
   bif k !=y.kind then(bif decide (k<y.kind)then -1 else 1)else
   bif k==1 then(bif n !=y.num then(bif decide (n<y.num)then -1 else 1)else 0)else
   bif k==2 then Lib.compareBytes s.data.toList y.txt.data.toList else
   bif k==3 then cmpLs l y.list else 0
where cmpLs:List Val→List Val→Int
 |[],ys=>bif decide (0<ys.length)then -1 else 0
 |_::_,[]=>1
 |x::r,y::s=>bif cmpV x y !=0 then cmpV x y else cmpLs r s
theorem yea (x y:Val):cmpV x y=
  bif x.kind !=y.kind then(bif decide (x.kind<y.kind)then -1 else 1)else
  bif x.kind==1 then(bif x.num !=y.num then(bif decide (x.num<y.num)then -1 else 1)else 0)else
  bif x.kind==2 then Lib.compareBytes x.txt.data.toList y.txt.data.toList else
  bif x.kind==3 then cmpV.cmpLs x.list y.list else 0:=by
 cases x;rw[cmpV];rfl
theorem yls (ys:List Val):cmpV.cmpLs [] ys=bif decide (0<ys.length)then -1 else 0:=by rw[cmpV.cmpLs]
theorem ylr (x:Val)(r:List Val):cmpV.cmpLs (x::r) []=1:=by rw[cmpV.cmpLs]
theorem yj9 (x y:Val)(r s:List Val):cmpV.cmpLs (x::r) (y::s)=bif cmpV x y !=0 then cmpV x y else cmpV.cmpLs r s:=by rw[cmpV.cmpLs]
end Go.Va
namespace Go.Proofs.YtpagmlndgblhhaaGreatDoor
open Go.RowKit Go.Own Go.Own.MapTy Go.Va Go.Sort
open Go.Own.Cells (sz enc)
theorem ylq (x y:Val)
  (ck cn:Int)(cs:ByteArray)(la:Option Addr)(ln lc:Nat)(dk dn:Int)(ds:ByteArray)(ma:Option Addr)(mn mc:Nat)(F F':Nat→Prop)(w:World)(C:CF F w ⟨ck,cn,cs,la,ln,lc⟩ x)(D:CF F' w ⟨dk,dn,ds,ma,mn,mc⟩ y)(r:Int)(hr:cmpV x y=r)
  (hk:(ck !=dk)=true):
  Calls Tryz.prog 71 #[.agg #[.int .i64 ck,.int .i64 cn,.string cs,.slice la ln lc],.agg #[.int .i64 dk,.int .i64 dn,.string ds,.slice ma mn mc]] w fun e w'=>e= .returned (.int .i64 r)∧Below w.heap.size w w'
  :=by
 rw[yea]at hr;have h1:ck=x.kind:=C.kind;have h2:cn=x.num:=C.n;have h3:cs=x.txt:=C.s;have g1:dk=y.kind:=D.kind;have g2:dn=y.num:=D.n;have g3:ds=y.txt:=D.s;rw[←h1,←h2,←h3,←g1,←g2,←g3]at hr;clear h1 h2 h3 g1 g2 g3;have HC:=zh2 C D;clear C D;rw[hk]at hr;simp only[znm]at hr;have hk2:(ck==dk)=false:=by simpa using hk
 have HR:=zhd hr;clear hr;have CS:=zhd (fun W=>yhl (decide (ck<dk)) W);have HB:=zhd ((((znv w.heap.size w).alloc (znc _) (.cells #[.int .i64 ck,.int .i64 cn,.string cs,.slice la ln lc] 38)).alloc (by simp) (.cells #[.int .i64 dk,.int .i64 dn,.string ds,.slice ma mn mc] 38)));generalize hd:decide (ck<dk)=b at*;go_enter Tryz.func71,Tryz.ntmps71;go_wp2_with fail;refine(CS.o _).mono ?_;rintro e w1 ⟨rfl,rfl⟩;go_wp2_with fail;go_ret;exact⟨by rw[←HR.o];rfl,HB.o⟩
theorem ymA (x y:Val)
  (ck cn:Int)(cs:ByteArray)(la:Option Addr)(ln lc:Nat)(dk dn:Int)(ds:ByteArray)(ma:Option Addr)(mn mc:Nat)(F F':Nat→Prop)(w:World)(C:CF F w ⟨ck,cn,cs,la,ln,lc⟩ x)(D:CF F' w ⟨dk,dn,ds,ma,mn,mc⟩ y)(r:Int)(hr:cmpV x y=r)
  (hk:ck=dk)(h1:ck=1):
  Calls Tryz.prog 71 #[.agg #[.int .i64 ck,.int .i64 cn,.string cs,.slice la ln lc],.agg #[.int .i64 dk,.int .i64 dn,.string ds,.slice ma mn mc]] w fun e w'=>e= .returned (.int .i64 r)∧Below w.heap.size w w'
  :=by
 rw[yea]at hr;have h1:ck=x.kind:=C.kind;have h2:cn=x.num:=C.n;have h3:cs=x.txt:=C.s;have g1:dk=y.kind:=D.kind;have g2:dn=y.num:=D.n;have g3:ds=y.txt:=D.s;rw[←h1,←h2,←h3,←g1,←g2,←g3]at hr;clear h1 h2 h3 g1 g2 g3;have HC:=zh2 C D;clear C D;have hk1:(ck !=dk)=false:=by rw[hk];simp
 rw[hk1]at hr;simp only[znl]at hr;subst hk;have HB:=zhd ((((znv w.heap.size w).alloc (znc _) (.cells #[.int .i64 ck,.int .i64 cn,.string cs,.slice la ln lc] 38)).alloc (by simp) (.cells #[.int .i64 ck,.int .i64 dn,.string ds,.slice ma mn mc] 38)));clear hk1;subst h1;simp only[beq_self_eq_true,znm]at hr;cases hn:(cn !=dn)with
 |true=>
  rw[hn]at hr;simp only[znm]at hr;have hn2:(cn==dn)=false:=by simpa using hn
  have HR:=zhd hr;clear hr;have CS:=zhd (fun W=>yhl (decide (cn<dn)) W);generalize hd:decide (cn<dn)=b at*;go_enter Tryz.func71,Tryz.ntmps71;go_wp2_with fail;refine(CS.o _).mono ?_;rintro e w1 ⟨rfl,rfl⟩;go_wp2_with fail;go_ret;exact⟨by rw[←HR.o];rfl,HB.o⟩
 |false=>
  rw[hn]at hr;simp only[znl]at hr;obtain rfl:cn=dn:=by simpa using hn
  have HR:=zhd hr;clear hr hn;go_enter Tryz.func71,Tryz.ntmps71;go_wp2_with fail;go_ret;exact⟨by rw[←HR.o];rfl,HB.o⟩
theorem ylo (x y:Val)
  (ck cn:Int)(cs:ByteArray)(la:Option Addr)(ln lc:Nat)(dk dn:Int)(ds:ByteArray)(ma:Option Addr)(mn mc:Nat)(F F':Nat→Prop)(w:World)(C:CF F w ⟨ck,cn,cs,la,ln,lc⟩ x)(D:CF F' w ⟨dk,dn,ds,ma,mn,mc⟩ y)(r:Int)(hr:cmpV x y=r)
  (hk:ck=dk)(h1:ck=2):
  Calls Tryz.prog 71 #[.agg #[.int .i64 ck,.int .i64 cn,.string cs,.slice la ln lc],.agg #[.int .i64 dk,.int .i64 dn,.string ds,.slice ma mn mc]] w fun e w'=>e= .returned (.int .i64 r)∧Below w.heap.size w w'
  :=by
 rw[yea]at hr;have h1:ck=x.kind:=C.kind;have h2:cn=x.num:=C.n;have h3:cs=x.txt:=C.s;have g1:dk=y.kind:=D.kind;have g2:dn=y.num:=D.n;have g3:ds=y.txt:=D.s;rw[←h1,←h2,←h3,←g1,←g2,←g3]at hr;clear h1 h2 h3 g1 g2 g3;have HC:=zh2 C D;clear C D;have hk1:(ck !=dk)=false:=by rw[hk];simp
 rw[hk1]at hr;simp only[znl]at hr;subst hk;have HB:=zhd ((((znv w.heap.size w).alloc (znc _) (.cells #[.int .i64 ck,.int .i64 cn,.string cs,.slice la ln lc] 38)).alloc (by simp) (.cells #[.int .i64 ck,.int .i64 dn,.string ds,.slice ma mn mc] 38)));clear hk1;subst h1;have e1:((2:Int)==1)=false:=rfl;rw[e1]at hr;simp only[beq_self_eq_true,znm,znl]at hr;have CS:=zhd (fun W=>Any.strings_Compare Tryz.lays106 cs ds W);have HR:=zhd hr;clear hr e1;go_enter Tryz.func71,Tryz.ntmps71;go_wp2_with fail;refine(CS.o _).mono ?_;rintro e w1 ⟨rfl,rfl⟩;go_wp2_with fail;go_ret;exact⟨by rw[←HR.o];rfl,HB.o⟩
theorem yj8 (x y:Val)
  (ck cn:Int)(cs:ByteArray)(la:Option Addr)(ln lc:Nat)(dk dn:Int)(ds:ByteArray)(ma:Option Addr)(mn mc:Nat)(F F':Nat→Prop)(w:World)(C:CF F w ⟨ck,cn,cs,la,ln,lc⟩ x)(D:CF F' w ⟨dk,dn,ds,ma,mn,mc⟩ y)(r:Int)(hr:cmpV x y=r)
  (hk:ck=dk)(h1:(ck==1)=false)(h2:(ck==2)=false)(h3:(ck==3)=false):
  Calls Tryz.prog 71 #[.agg #[.int .i64 ck,.int .i64 cn,.string cs,.slice la ln lc],.agg #[.int .i64 dk,.int .i64 dn,.string ds,.slice ma mn mc]] w fun e w'=>e= .returned (.int .i64 r)∧Below w.heap.size w w'
  :=by
 rw[yea]at hr;have h1:ck=x.kind:=C.kind;have h2:cn=x.num:=C.n;have h3:cs=x.txt:=C.s;have g1:dk=y.kind:=D.kind;have g2:dn=y.num:=D.n;have g3:ds=y.txt:=D.s;rw[←h1,←h2,←h3,←g1,←g2,←g3]at hr;clear h1 h2 h3 g1 g2 g3;have HC:=zh2 C D;clear C D;have hk1:(ck !=dk)=false:=by rw[hk];simp
 rw[hk1]at hr;simp only[znl]at hr;subst hk;have HB:=zhd ((((znv w.heap.size w).alloc (znc _) (.cells #[.int .i64 ck,.int .i64 cn,.string cs,.slice la ln lc] 38)).alloc (by simp) (.cells #[.int .i64 ck,.int .i64 dn,.string ds,.slice ma mn mc] 38)));clear hk1;rw[h1,h2,h3]at hr;simp only[znl]at hr;have HR:=zhd hr;clear hr;go_enter Tryz.func71,Tryz.ntmps71;go_wp2_with fail;go_ret;exact⟨by rw[←HR.o];rfl,HB.o⟩
def ypp (w2:World)(x y:Val)(r:Int)(gk:Nat)(v46:Value)(wr:World):Prop:=
 ∃i:Nat,v46= .int .i64 i∧i≤x.list.length∧i≤y.list.length∧gk=x.list.length - i∧cmpV.cmpLs (x.list.drop i) (y.list.drop i)=r∧Below w2.heap.size w2 wr
theorem ylp (n:Nat)(IH:∀(x:Val),x.parts≤n→∀(y:Val) (c d:VC) (F F':Nat→Prop) (w:World),CF F w c x→CF F' w d y→
   Calls Tryz.prog 71 #[.agg #[.int .i64 c.kind,.int .i64 c.n,.string c.s,.slice c.la c.ln c.lc],.agg #[.int .i64 d.kind,.int .i64 d.n,.string d.s,.slice d.la d.ln d.lc]] w fun e w'=>e= .returned (.int .i64 (cmpV x y))∧Below w.heap.size w w')
  (x y:Val)
  (ck cn:Int)(cs:ByteArray)(la:Option Addr)(ln lc:Nat)(dk dn:Int)(ds:ByteArray)(ma:Option Addr)(mn mc:Nat)(F F':Nat→Prop)(w:World)(C:CF F w ⟨ck,cn,cs,la,ln,lc⟩ x)(D:CF F' w ⟨dk,dn,ds,ma,mn,mc⟩ y)(r:Int)(hr:cmpV x y=r)
  (hk:ck=dk)(h1:ck=3)(hx:x.parts≤n+1)(g off g' off':Nat)
  (hel:ln=x.list.length∧ln≤maxLen∧(∀(i:Nat) (z:Val),x.list[i]? =some z→F g∧g<w.heap.size∧∃c,CF F w c z∧
    w.cell? ⟨g,off+i*4,none⟩=some (.int .i64 c.kind)∧w.cell? ⟨g,off+i*4+1,none⟩=some (.int .i64 c.n)∧w.cell? ⟨g,off+i*4+2,none⟩=some (.string c.s)∧w.cell? ⟨g,off+i*4+3,none⟩=some (.slice c.la c.ln c.lc)))(hla:la=some ⟨g,off,none⟩∨x.list=[])
  (hem:mn=y.list.length∧mn≤maxLen∧(∀(i:Nat) (z:Val),y.list[i]? =some z→F' g'∧g'<w.heap.size∧∃c,CF F' w c z∧
    w.cell? ⟨g',off'+i*4,none⟩=some (.int .i64 c.kind)∧w.cell? ⟨g',off'+i*4+1,none⟩=some (.int .i64 c.n)∧w.cell? ⟨g',off'+i*4+2,none⟩=some (.string c.s)∧w.cell? ⟨g',off'+i*4+3,none⟩=some (.slice c.la c.ln c.lc)))(hma:ma=some ⟨g',off',none⟩∨y.list=[]):
  Calls Tryz.prog 71 #[.agg #[.int .i64 ck,.int .i64 cn,.string cs,.slice la ln lc],.agg #[.int .i64 dk,.int .i64 dn,.string ds,.slice ma mn mc]] w fun e w'=>e= .returned (.int .i64 r)∧Below w.heap.size w w'
  :=by
 rw[yea]at hr;have h1:ck=x.kind:=C.kind;have h2:cn=x.num:=C.n;have h3:cs=x.txt:=C.s;have g1:dk=y.kind:=D.kind;have g2:dn=y.num:=D.n;have g3:ds=y.txt:=D.s;rw[←h1,←h2,←h3,←g1,←g2,←g3]at hr;clear h1 h2 h3 g1 g2 g3;have HC:=zh2 C D;clear C D;have hk1:(ck !=dk)=false:=by rw[hk];simp
 rw[hk1]at hr;simp only[znl]at hr;subst hk;have HB:=zhd ((((znv w.heap.size w).alloc (znc _) (.cells #[.int .i64 ck,.int .i64 cn,.string cs,.slice la ln lc] 38)).alloc (by simp) (.cells #[.int .i64 ck,.int .i64 dn,.string ds,.slice ma mn mc] 38)));clear hk1;subst h1;have e1:((3:Int)==1)=false:=rfl;have e2:((3:Int)==2)=false:=rfl;rw[e1,e2]at hr;simp only[beq_self_eq_true,znm,znl]at hr;obtain⟨hln,hlm,hel⟩:=hel;obtain⟨hmn,hmm,hem⟩:=hem;have HR:=zhd hr;have HE:=zh2 hel hem;have HL:=zh2 hln hmn;have HLA:=zh2 hla hma;have HI:=zhd IH;unfold maxLen at hlm hmm;clear hr e1 e2 hel hem hln hmn hla hma IH;go_enter Tryz.func71,Tryz.ntmps71;go_wp2_with fail;obtain⟨w2,hw2⟩:∃w2,w2=(w.alloc (.cells #[.int .i64 3,.int .i64 cn,.string cs,.slice la ln lc] 38)).alloc (.cells #[.int .i64 3,.int .i64 dn,.string ds,.slice ma mn mc] 38):=⟨_,rfl⟩;have p3:w2.cell? ⟨w.heap.size,3,none⟩=some (.slice la ln lc):=by rw[hw2,zch yaE];rfl
 have p7:w2.cell? ⟨w.heap.size+1,3,none⟩=some (.slice ma mn mc):=by rw[hw2,zch yar];rfl
 have sz2:w2.heap.size=w.heap.size+2:=by rw[hw2];simp
 rw[←hw2]at HB⊢;have HP:=zh3 p3 p7 sz2;clear hw2 p3 p7 sz2;go_loopg [46] (x.list.length) (fun gk v46 wr=>ypp w2 x y r gk v46 wr)
 case atStart=>exact⟨0,rfl,znq _,znq _,rfl,HR.o,znv _ _⟩
 case round=>
  obtain⟨i,rfl,hi,hj,hgk,hcm,hB⟩:=hrel;have b1:=hB.size;have s1:w.heap.size+1<wr.heap.size:=by have:=HP.o.2.2;omega
  have s0:w.heap.size<wr.heap.size:=by omega
  have p3:wr.cell? ⟨w.heap.size,3,none⟩=some (.slice la ln lc):=by rw[hB.cell (p:=⟨w.heap.size,3,none⟩) (show w.heap.size<w2.heap.size by have:=HP.o.2.2;omega)];exact HP.o.1
  have p7:wr.cell? ⟨w.heap.size+1,3,none⟩=some (.slice ma mn mc):=by rw[hB.cell (p:=⟨w.heap.size+1,3,none⟩) (show w.heap.size+1<w2.heap.size by have:=HP.o.2.2;omega)];exact HP.o.2.1
  have BW:=HB.o.trans (hB.mono (show w.heap.size≤w2.heap.size by have:=HP.o.2.2;omega));by_cases hin:i<ln
  ·obtain⟨z,hz⟩:=yad (l:=x.list) (k:=i) (by have:=HL.o.1;omega)
   obtain⟨hFg,hg,c',hC,q0,q1,q2,q3⟩:=HE.o.1 i z hz;have hin':(i:Int)<ln:=by omega
   have hla:la=some ⟨g,off,none⟩:=HLA.o.1.resolve_right (fun e=>by rw[e]at hz;simp at hz);rw[←BW.cell (p:=⟨g,_,none⟩) hg]at q0 q1 q2 q3;have hdr:x.list.drop i=z::x.list.drop (i+1):=by
    rw[znr (zge hz).1,(zge hz).2]
   have hgl:g<wr.heap.size:=by omega
   subst hla;by_cases hjn:i<mn
   ·obtain⟨u,hu⟩:=yad (l:=y.list) (k:=i) (by have:=HL.o.2;omega)
    obtain⟨hFm,hm,d',hD,m0,m1,m2,m3⟩:=HE.o.2 i u hu;have hjn':((i:Int)==mn)=false:=by rw[zna];omega
    have hjn2:(i:Int)<mn:=by omega
    have hma:ma=some ⟨g',off',none⟩:=HLA.o.2.resolve_right (fun e=>by rw[e]at hu;simp at hu);rw[←BW.cell (p:=⟨g',_,none⟩) hm]at m0 m1 m2 m3;have hds:y.list.drop i=u::y.list.drop (i+1):=by
     rw[znr (zge hu).1,(zge hu).2]
    have hml:g'<wr.heap.size:=by omega
    rw[hdr,hds,yj9]at hcm;have CW:=zhd (fun W (hW:Below wr.heap.size wr W)=>HI.o z (by have:=Val.parts_lt (v:=x) (zmg hz);omega) u c' d' _ _ W (hC.keep (S:=fun _=>False) (zkb (BW.trans (hW.mono BW.size))) (fun _ _ f=>f)) (hD.keep (S:=fun _=>False) (zkb (BW.trans (hW.mono BW.size))) (fun _ _ f=>f)));generalize cmpV z u=cv at*;have HX:=zh8 hcm hB hgk BW hj hi (zge hz).1 (zge hu).1;subst hma;clear hcm hB hgk BW hz hu hC hD hdr hds;go_wp2_with fail;obtain⟨w6,hw6⟩:∃w6,w6=wr.alloc (.cells #[.int .i64 c'.kind,.int .i64 c'.n,.string c'.s,.slice c'.la c'.ln c'.lc] 38):=⟨_,rfl⟩;have K6:=zba hw6;have sz6:w6.heap.size=wr.heap.size+1:=by rw[hw6];simp
    have z0:w6.cell? ⟨wr.heap.size,0,none⟩=some (.int .i64 c'.kind):=by rw[hw6,zch (znb _ _)];rfl
    have z1:w6.cell? ⟨wr.heap.size,1,none⟩=some (.int .i64 c'.n):=by rw[hw6,zch (znb _ _)];rfl
    have z2:w6.cell? ⟨wr.heap.size,2,none⟩=some (.string c'.s):=by rw[hw6,zch (znb _ _)];rfl
    have z3:w6.cell? ⟨wr.heap.size,3,none⟩=some (.slice c'.la c'.ln c'.lc):=by rw[hw6,zch (znb _ _)];rfl
    rw[←hw6];have H6:=zh2 K6 sz6;have l6:wr.heap.size<w6.heap.size:=by omega
    rw[←K6.cell (p:=⟨g',_,none⟩) hml]at m0 m1 m2 m3;rw[←K6.cell (p:=⟨w.heap.size+1,3,none⟩) s1]at p7;have hml6:g'<w6.heap.size:=by omega
    have s16:w.heap.size+1<w6.heap.size:=by omega
    clear hw6 K6 sz6;refine yaC (by kernel_rfl) (by kernel_rfl) ?_
    repeat(go_big_quiet_step ((go_at_call 71;exact ydq (CW.o _ ((H6.o.1.trans ((Subtype.property _:Below w6.heap.size w6 _).mono (by have:=H6.o.2;omega))))))))
    refine wpQuiet_nil ?_;intro w7 hB7;have HB7:=zhd (H6.o.1.trans (hB7.mono (by have:=H6.o.2;omega)));clear hB7 CW;cases hz:(cv !=0)with
    |true=>
     have hcm:=HX.o.1;rw[hz]at hcm;simp only[znm]at hcm;have HM:=zhd hcm;clear hcm;go_wp2_with fail;go_ret;exact⟨by rw[←HM.o];rfl,HX.o.2.2.2.1.trans (HB7.o.mono HX.o.2.2.2.1.size)⟩
    |false=>
     have hcm:=HX.o.1;rw[hz]at hcm;simp only[znl]at hcm;have HM:=zhd hcm;clear hcm;go_wp2_with fail;go_roundg (x.list.length - (i+1))
     case measure=>have:=HX.o.2.2.1;have:=HX.o.2.2.2.2.2.2.1;omega
     case rel=>exact⟨i+1,by simp,HX.o.2.2.2.2.2.2.1,HX.o.2.2.2.2.2.2.2,rfl,HM.o,HX.o.2.1.trans (HB7.o.mono HX.o.2.1.size)⟩
   ·obtain rfl:i=mn:=by have:=HL.o.2;omega
    have hyn:y.list.drop i=[]:=zns (by have:=HL.o.2;omega);rw[hdr,hyn,ylr]at hcm;have HX:=zh2 hcm BW;clear hcm hB hgk BW hz hC hdr;go_wp2_with fail;go_ret;exact⟨by rw[←HX.o.1];rfl,HX.o.2.alloc (by have:=HX.o.2.size;omega) _⟩
  ·obtain rfl:i=ln:=by have:=HL.o.1;omega
   have hxn:x.list.drop i=[]:=zns (by have:=HL.o.1;omega);rw[hxn,yls]at hcm;have hdl:(y.list.drop i).length=mn - i:=by rw[List.length_drop,←HL.o.2]
   rw[hdl]at hcm;clear hdl;by_cases hlt:i<mn
   ·have e3:(i:Int)<mn:=by omega
    have e4:decide (i<mn)=true:=by rw[decide_eq_true_eq];exact hlt
    rw[show decide (0<mn - i)=true from by rw[decide_eq_true_eq];omega]at hcm;have HX:=zh2 hcm BW;clear hcm hB hgk BW;go_wp2_with fail;go_ret;exact⟨by rw[←HX.o.1];rfl,HX.o.2⟩
   ·have e3:¬(i:Int)<mn:=by omega
    have e4:decide (i<mn)=false:=by rw[znz];exact hlt
    rw[show decide (0<mn - i)=false from by rw[znz];omega]at hcm;have HX:=zh2 hcm BW;clear hcm hB hgk BW;go_wp2_with fail;go_ret;exact⟨by rw[←HX.o.1];rfl,HX.o.2⟩
theorem ycx:∀(n:Nat) (x:Val),x.parts≤n→∀(y:Val) (c d:VC) (F F':Nat→Prop) (w:World),CF F w c x→CF F' w d y→
   Calls Tryz.prog 71 #[.agg #[.int .i64 c.kind,.int .i64 c.n,.string c.s,.slice c.la c.ln c.lc],.agg #[.int .i64 d.kind,.int .i64 d.n,.string d.s,.slice d.la d.ln d.lc]] w fun e w'=>e= .returned (.int .i64 (cmpV x y))∧Below w.heap.size w w'
 |0,x,hx,_,_,_,_,_,_,_,_=>by have:=x.parts_pos;omega
 |n+1,x,hx,y,⟨ck,cn,cs,la,ln,lc⟩,⟨dk,dn,ds,ma,mn,mc⟩,F,F',w,C,D=>by
  by_cases hk:ck=dk
  ·by_cases k1:ck=1
   ·exact ymA x y ck cn cs la ln lc dk dn ds ma mn mc F F' w C D _ rfl hk k1
   ·by_cases k2:ck=2
    ·exact ylo x y ck cn cs la ln lc dk dn ds ma mn mc F F' w C D _ rfl hk k2
    ·by_cases k3:ck=3
     ·obtain⟨h4,h5,h6⟩:=C.l.elems
      obtain⟨g4,g5,g6⟩:=D.l.elems;have hA:∃g off,(la=some ⟨g,off,none⟩∨x.list=[])∧(∀(i:Nat) (z:Val),x.list[i]? =some z→F g∧g<w.heap.size∧∃c,CF F w c z∧
        w.cell? ⟨g,off+i*4,none⟩=some (.int .i64 c.kind)∧w.cell? ⟨g,off+i*4+1,none⟩=some (.int .i64 c.n)∧w.cell? ⟨g,off+i*4+2,none⟩=some (.string c.s)∧w.cell? ⟨g,off+i*4+3,none⟩=some (.slice c.la c.ln c.lc)):=by
       rcases h6 with h6|⟨g,off,hla,hFg,hg,h6⟩
       ·exact⟨0,0,.inr h6,fun i y hy=>by rw[h6]at hy;simp at hy⟩
       ·exact⟨g,off,.inl hla,fun i y hy=>⟨hFg,hg,h6 i y hy⟩⟩
      have hB:∃g off,(ma=some ⟨g,off,none⟩∨y.list=[])∧(∀(i:Nat) (z:Val),y.list[i]? =some z→F' g∧g<w.heap.size∧∃c,CF F' w c z∧
        w.cell? ⟨g,off+i*4,none⟩=some (.int .i64 c.kind)∧w.cell? ⟨g,off+i*4+1,none⟩=some (.int .i64 c.n)∧w.cell? ⟨g,off+i*4+2,none⟩=some (.string c.s)∧w.cell? ⟨g,off+i*4+3,none⟩=some (.slice c.la c.ln c.lc)):=by
       rcases g6 with h6|⟨g,off,hla,hFg,hg,h6⟩
       ·exact⟨0,0,.inr h6,fun i y hy=>by rw[h6]at hy;simp at hy⟩
       ·exact⟨g,off,.inl hla,fun i y hy=>⟨hFg,hg,h6 i y hy⟩⟩
      obtain⟨g,off,a1,a2⟩:=hA;obtain⟨g',off',b1,b2⟩:=hB;exact ylp n (fun y hy=>ycx n y hy) x y ck cn cs la ln lc dk dn ds ma mn mc F F' w C D _ rfl hk k3 hx g off g' off' ⟨h4,h5,a2⟩ a1 ⟨g4,g5,b2⟩ b1
     ·exact yj8 x y ck cn cs la ln lc dk dn ds ma mn mc F F' w C D _ rfl hk (beq_eq_false_iff_ne.2 k1) (beq_eq_false_iff_ne.2 k2) (beq_eq_false_iff_ne.2 k3)
  ·exact ylq x y ck cn cs la ln lc dk dn ds ma mn mc F F' w C D _ rfl (by simpa using hk)
theorem yeW (x y:Val)(c d:VC)(F F':Nat→Prop)(w:World)(C:CF F w c x)(D:CF F' w d y)(b:Bool)(hb:(cmpV x y==0)=b):
  Calls Tryz.prog 33 #[.agg #[.int .i64 c.kind,.int .i64 c.n,.string c.s,.slice c.la c.ln c.lc],.agg #[.int .i64 d.kind,.int .i64 d.n,.string d.s,.slice d.la d.ln d.lc]] w fun e w'=>e= .returned (.bool b)∧Below w.heap.size w w':=by
 have K0:Keeps (fun _=>False) w ((w.alloc (.cells #[.int .i64 c.kind,.int .i64 c.n,.string c.s,.slice c.la c.ln c.lc] 38)).alloc (.cells #[.int .i64 d.kind,.int .i64 d.n,.string d.s,.slice d.la d.ln d.lc] 38)):=((Keeps.refl _ _).alloc _).alloc _;have CC:=zhd (ycx x.parts x (znc _) y c d F F' _ (C.keep K0 (fun _ _ f=>f)) (D.keep K0 (fun _ _ f=>f)));have HB:=zhd (K0.below (B:=w.heap.size) (znc _) (fun _ _ f=>f));clear C D K0;generalize cmpV x y=v at*;go_enter Tryz.func33,Tryz.ntmps33;go_wp2_with fail;refine CC.o.mono ?_;rintro e w1 ⟨rfl,hB⟩;have H1:=zhd (HB.o.trans (hB.mono (by simp;omega)));clear hB;go_wp2_with fail;go_ret;exact⟨rfl,H1.o⟩
end Go.Proofs.YtpagmlndgblhhaaGreatDoor
namespace Go.Va
open Go.Own Go.RowKit
def ylx:Val:=.mk 0 0 ⟨#[]⟩ []
def ync (V:Nat→PR)(s:List UInt8):Nat→Nat→List Val→PR
 |0,_,_=>.bad
 |f+1,k,acc=>
  if yd4 s k 93=true then .ok (.mk 3 0 ⟨#[]⟩ acc) (k+1)else
  if acc.length≠0∧yd4 s k 32=false then .bad else
  match V (if acc.length=0 then k else k+1)with
  | .ok x k2=>ync V s f k2 (acc++[x])
  | .deep=>.deep
  | .bad=>.bad
def yo2:Option (List UInt8×Nat)→PR
 |some (t,k2)=>.ok (.mk 2 0 ⟨t.toArray⟩ []) k2
 |none=>.bad
def ynj (L:Nat→PR)(s:List UInt8)(k:Nat):PR:=
 if Lib.hasPrefix (s.drop k) [110,105,108]=true then .ok ylx (k+3)else
 if yd4 s k 34=true then yo2 (yjj [] (k+1) (s.drop (k+1)))else
 if yd4 s k 91=true then L (k+1)else yfA s k
def yn1:Nat→List UInt8→Nat→PR
 |0,s,k=>ynj (fun _=>.deep) s k
 |n+1,s,k=>ynj (fun j=>ync (yn1 n s) s (s.length+1) j []) s k
end Go.Va
namespace Go.Proofs.YtpagmlndgblhhaaGreatDoor
open Go.RowKit Go.Own Go.Own.MapTy Go.Va Go.Sort
open Go.Own.Cells (sz enc)
theorem ya6 (n:Int)(w:World):Calls Tryz.prog 106 #[.int .i64 n] w fun e w'=>e= .returned (.agg #[.int .i64 1,.int .i64 n,.string ⟨#[]⟩,.slice none 0 0])∧Below w.heap.size w w':=by
 go_enter Tryz.func106,Tryz.ntmps106;go_wp2_with fail;exact zng (v:=.agg #[.int .i64 1,.int .i64 n,.string ⟨#[]⟩,.slice none 0 0]) (by simp only[results,Tryz.results106];go_simp) rfl ⟨rfl,zal⟩
theorem yns {b:Nat}{s:ByteArray}{k:Nat}{deep:Bool}{c:UInt8}{w:World}(H:TX w b s k deep)(hs:s.size≤4294967280)(he:yd4 s.data.toList k c=false):
  Calls Tryz.prog 171 #[.pointer (some ⟨b,0,none⟩),.int .u8 c.toNat] w fun e w'=>e= .returned (.bool false)∧Hid (TX w' b s k deep∧Keeps (fun j=>j=b) w w'):=
 (yj3 b s k deep c w H hs).mono fun e w' ⟨h1,h2⟩=>⟨by rw[h1,he],zhd (by have:=h2.o;rw[he]at this;exact this)⟩
def Z4 (W:World)(B:Nat):Prop:=W.heap[B]? =some (.cells #[.int .i64 0,.int .i64 0,.string .empty,.slice none 0 0] 38 (0,0))
theorem Z4.c0 {W:World}{B:Nat}(h:Z4 W B):W.cell? ⟨B,0,none⟩=some (.int .i64 0):=by rw[zch h];rfl
theorem Z4.c1 {W:World}{B:Nat}(h:Z4 W B):W.cell? ⟨B,1,none⟩=some (.int .i64 0):=by rw[zch h];rfl
theorem Z4.c2 {W:World}{B:Nat}(h:Z4 W B):W.cell? ⟨B,2,none⟩=some (.string .empty):=by rw[zch h];rfl
theorem Z4.c3 {W:World}{B:Nat}(h:Z4 W B):W.cell? ⟨B,3,none⟩=some (.slice none 0 0):=by rw[zch h];rfl
theorem Z4.fr {W:World}{B:Nat}(h:Z4 W B)(o:Nat):W.frozen? ⟨B,o,none⟩=false:=zfr h o
structure VS (w:World)(N b:Nat)(s:ByteArray)(k:Nat)(deep:Bool)(W:World):Prop where
 t:TX W b s k deep
 k:Keeps (fun j=>j=b) w W
 z:Z4 W w.heap.size
 g:Gl Tryz.prog N W
 lt:w.heap.size<W.heap.size
theorem VS.step {w W W':World}{N b:Nat}{s:ByteArray}{k k':Nat}{deep deep':Bool}(h:VS w N b s k deep W)(b0:b<w.heap.size)(hN:N≤b)(T:TX W' b s k' deep')(K:Keeps (fun j=>j=b) W W'):VS w N b s k' deep' W':=
 ⟨T,h.k.trans K (fun _ _ e=>e),(K.block _ h.lt (by omega)).trans h.z,h.g.keep K (fun j e=>by omega),znj h.lt K.size⟩
theorem VS.fin {w W:World}{N b:Nat}{s:ByteArray}{k:Nat}{deep:Bool}(h:VS w N b s k deep W)(b0:b<w.heap.size)(x0 x1 x2 x3:Value):
  TX ((((W.setCell ⟨w.heap.size,0,none⟩ x0).setCell ⟨w.heap.size,1,none⟩ x1).setCell ⟨w.heap.size,2,none⟩ x2).setCell ⟨w.heap.size,3,none⟩ x3) b s k deep∧
  Keeps (fun j=>j=b) w ((((W.setCell ⟨w.heap.size,0,none⟩ x0).setCell ⟨w.heap.size,1,none⟩ x1).setCell ⟨w.heap.size,2,none⟩ x2).setCell ⟨w.heap.size,3,none⟩ x3)∧
  Keeps (fun j=>j=w.heap.size) W ((((W.setCell ⟨w.heap.size,0,none⟩ x0).setCell ⟨w.heap.size,1,none⟩ x1).setCell ⟨w.heap.size,2,none⟩ x2).setCell ⟨w.heap.size,3,none⟩ x3):=by
 have K:=((((Keeps.refl (fun j=>j=w.heap.size) W).setCell (p:=⟨w.heap.size,0,none⟩) (.inl rfl) x0).setCell (p:=⟨w.heap.size,1,none⟩) (.inl rfl) x1).setCell (p:=⟨w.heap.size,2,none⟩) (.inl rfl) x2).setCell (p:=⟨w.heap.size,3,none⟩) (.inl rfl) x3;exact⟨h.t.keep K (by omega),h.k.trans K (fun j hj e=>by omega),K⟩
theorem VS.below {w W W':World}{N b:Nat}{s:ByteArray}{k:Nat}{deep:Bool}(h:VS w N b s k deep W)(b0:b<w.heap.size)(hN:N≤b)(K:Below W.heap.size W W'):VS w N b s k deep W':=
 h.step b0 hN (h.t.keep (S:=fun _=>False) (zkb K) (fun f=>f)) ((zkb (S:=fun _=>False) K).mono (fun _ _ f=>f.elim))
def L8 (W:World)(B:Nat)(vl:Value):Prop:=W.heap[B]? =some (.cells #[.int .i64 3,.int .i64 0,.string ⟨#[]⟩,vl] 38 (0,0))
theorem yfc:ElemOf VC Tryz.prog 25 38 56:=yb0 Tryz.underlying25 (z:=.agg #[.int .i64 0,.int .i64 0,.string .empty,.slice none 0 0]) (n:=4) (by kernel_rfl) rfl rfl
def LF (w:World)(B:Nat)(vl:Value):Nat→Prop:=fun j=>w.heap.size<j∧j≠B∧vl.ownBlock≠some j
def yot (w:World)(b:Nat)(s:ByteArray)(r:PR)(e:Ending)(w':World):Prop:=
 ∃(c:VC) (k2:Nat),k2≤s.size∧Keeps (fun j=>j=b) w w'∧match r with
  | .ok x k3=>e= .returned (.tuple #[.agg #[.int .i64 c.kind,.int .i64 c.n,.string c.s,.slice c.la c.ln c.lc],.bool true])∧k2=k3∧CF (fun j=>w.heap.size≤j) w' c x∧TX w' b s k2 false
  | .deep=>e= .returned (.tuple #[.agg #[.int .i64 c.kind,.int .i64 c.n,.string c.s,.slice c.la c.ln c.lc],.bool false])∧TX w' b s k2 true
  | .bad=>e= .returned (.tuple #[.agg #[.int .i64 c.kind,.int .i64 c.n,.string c.s,.slice c.la c.ln c.lc],.bool false])∧TX w' b s k2 false
theorem yk8 {N:Nat}
  (b:Nat)(s:ByteArray)(k:Nat)(d:Nat)(w:World)(H:TX w b s k false)(hs:s.size≤4294967280)(ha:k≤s.size)(G:Gl Tryz.prog N w)(hN:N≤b)
  (hp:Lib.hasPrefix (s.data.toList.drop k) [110,105,108]=false)(h1:yd4 s.data.toList k 34=false)(h2:yd4 s.data.toList k 91=false)(r:PR)(hr:yfA s.data.toList k=r):
  Calls Tryz.prog 151 #[.pointer (some ⟨b,0,none⟩),.int .i64 d] w
   (yot w b s r):=by
 have HR:=zhd hr;clear hr;have b0:b<w.heap.size:=H.lt;have c0:=H.c0;have c1:=H.c1;have hkk:(k:Int)≤s.size:=by omega
 have HH:=zh2 H G;clear H G;have HPx:=zhd (show∀W,Calls Tryz.prog 170 #[.string (s.extract k s.size),.string ⟨#[110,105,108]⟩] W (fun e w'=>e= .returned (.bool false)∧W=w')from fun W=>(Any.strings_HasPrefix Tryz.lays99 (s.extract k s.size) ⟨#[110,105,108]⟩ W).mono fun e w' ⟨h1,h2⟩=>⟨by rw[h1,show(s.extract k s.size).data.toList=s.data.toList.drop k from by simp[ByteArray.data_extract,zmj],hp],h2.symm⟩);have HPP:=zhd hp;clear hp;go_enter Tryz.func151,Tryz.ntmps151;go_wp2_with fail;refine yaC (by kernel_rfl) (by kernel_rfl) ?_
 repeat(go_big_quiet_step ((go_at_call 170;exact yfa (HPx.o _))))
 refine wpQuiet_nil ?_;intro w1 hB1;have S1:VS w N b s k false w1:=by
  have K0:Keeps (fun _=>False) w w1:=((Keeps.refl (fun _=>False) w).alloc _).trans (zkb hB1) (fun _ _ f=>f);exact⟨HH.o.1.keep K0 (fun f=>f),K0.mono (fun _ _ f=>f.elim),(hB1.block _ (by simp)).trans (znb _ _),HH.o.2.keep K0 (fun _ f=>f.elim),by have:=hB1.size;simp at this;omega⟩
 clear c0 c1 hB1;have c0:=S1.t.c0;have c1:=S1.t.c1;have c2:=S1.t.c2;have z0:=S1.z.c0;have z1:=S1.z.c1;have z2:=S1.z.c2;have z3:=S1.z.c3;have f0:=S1.t.fr;have zf:=S1.z.fr;have lt1:=S1.lt;have HS:=zhd S1;clear S1;go_wp2_with fail;refine(yns (c:=34) HS.o.t hs h1).mono ?_;rintro e w2 ⟨rfl,H2⟩;have S2:=zhd (HS.o.step b0 hN H2.o.1 H2.o.2);clear c0 c1 c2 z0 z1 z2 z3 f0 zf;have c0:=S2.o.t.c0;have c1:=S2.o.t.c1;have c2:=S2.o.t.c2;have z0:=S2.o.z.c0;have z1:=S2.o.z.c1;have z2:=S2.o.z.c2;have z3:=S2.o.z.c3;have f0:=S2.o.t.fr;have zf:=S2.o.z.fr;have lt2:=S2.o.lt;have bl2:=S2.o.t.lt;go_wp2_with fail;refine(yns (c:=91) S2.o.t hs h2).mono ?_;rintro e w3 ⟨rfl,H3⟩;have S3:=zhd (S2.o.step b0 hN H3.o.1 H3.o.2);clear c0 c1 c2 z0 z1 z2 z3 f0 zf;have c0:=S3.o.t.c0;have c1:=S3.o.t.c1;have c2:=S3.o.t.c2;have z0:=S3.o.z.c0;have z1:=S3.o.z.c1;have z2:=S3.o.z.c2;have z3:=S3.o.z.c3;have f0:=S3.o.t.fr;have zf:=S3.o.z.fr;have lt3:=S3.o.lt;have bl3:=S3.o.t.lt;go_wp2_with fail;refine(yit b s k false w3 S3.o.t hs ha S3.o.g hN).mono ?_;rintro e w4 ⟨T4,K4,H4⟩;have hle:=(yfB (s:=s.data.toList) (k:=k) (by simpa using ha)).2
 have hle:ybO s.data.toList k≤s.size:=by simpa using hle
 have HL:=zhd hle;clear hle;have S4:=zhd (S3.o.step b0 hN T4 K4);clear c0 c1 c2 z0 z1 z2 z3 f0 zf;have c0:=S4.o.t.c0;have c1:=S4.o.t.c1;have c2:=S4.o.t.c2;have z0:=S4.o.z.c0;have z1:=S4.o.z.c1;have z2:=S4.o.z.c2;have z3:=S4.o.z.c3;have f0:=S4.o.t.fr;have zf:=S4.o.z.fr;have lt4:=S4.o.lt;have bl4:=S4.o.t.lt;clear T4 K4;rw[HR.o]at H4;cases r with
 |ok x k2=>
  obtain⟨rfl,hx,hk2⟩:=H4;have HX:=zh2 hx hk2;clear hx hk2;go_wp2_with fail;refine(ya6 _ _).mono ?_;rintro e w5 ⟨rfl,hB5⟩;have S5:=zhd (S4.o.below b0 hN hB5);clear c0 c1 c2 z0 z1 z2 z3 f0 zf;have c0:=S5.o.t.c0;have c1:=S5.o.t.c1;have c2:=S5.o.t.c2;have z0:=S5.o.z.c0;have z1:=S5.o.z.c1;have z2:=S5.o.z.c2;have z3:=S5.o.z.c3;have f0:=S5.o.t.fr;have zf:=S5.o.z.fr;have lt5:=S5.o.lt;have bl5:=S5.o.t.lt;clear hB5;go_wp2_with fail;have F:=S5.o.fin b0 (.int .i64 1) (.int .i64 x.num) (.string ⟨#[]⟩) (.slice none 0 0);exact zng (v:=.tuple #[.agg #[.int .i64 1,.int .i64 x.num,.string ⟨#[]⟩,.slice none 0 0],.bool true]) (by simp only[results,Tryz.results151];go_simp) rfl ⟨⟨1,x.num,⟨#[]⟩,none,0,0⟩,ybO s.data.toList k,HL.o,F.2.1,rfl,HX.o.2.symm,by rw[HX.o.1];exact⟨rfl,rfl,rfl,VF.nil _ _⟩,F.1⟩
 |deep=>
  exfalso;have hn:=HR.o;unfold yfA at hn;split at hn
  ·split at hn<;>cases hn
  ·cases hn
 |bad=>
  obtain⟨n,rfl⟩:=H4;go_wp2_with fail;refine(ya6 _ _).mono ?_;rintro e w5 ⟨rfl,hB5⟩;have S5:=zhd (S4.o.below b0 hN hB5);clear c0 c1 c2 z0 z1 z2 z3 f0 zf;have c0:=S5.o.t.c0;have c1:=S5.o.t.c1;have c2:=S5.o.t.c2;have z0:=S5.o.z.c0;have z1:=S5.o.z.c1;have z2:=S5.o.z.c2;have z3:=S5.o.z.c3;have f0:=S5.o.t.fr;have zf:=S5.o.z.fr;have lt5:=S5.o.lt;have bl5:=S5.o.t.lt;clear hB5;go_wp2_with fail;have F:=S5.o.fin b0 (.int .i64 1) (.int .i64 n) (.string ⟨#[]⟩) (.slice none 0 0);exact zng (v:=.tuple #[.agg #[.int .i64 1,.int .i64 n,.string ⟨#[]⟩,.slice none 0 0],.bool false]) (by simp only[results,Tryz.results151];go_simp) rfl ⟨⟨1,n,⟨#[]⟩,none,0,0⟩,ybO s.data.toList k,HL.o,F.2.1,rfl,F.1⟩
end Go.Proofs.YtpagmlndgblhhaaGreatDoor
namespace Go.Va
open Go.Own Go.RowKit
def checkL (x:Val):Int:=bif (yal x 0 (0,0)).2 !=0 then(yal x 0 (0,0)).2 else bif decide (512<(yaf x).length)then 2 else 0
mutual
theorem yha:∀(x:Val) (d p:Nat),(yal x d (p,0)).2=0→(yaf x).length+280*p≤280*(yal x d (p,0)).1
 | .mk k n s l,d,p,h=>by
   rw[yal]at h⊢;rw[yaf];simp only[bne_self_eq_false,znl]at h⊢;cases h2:decide (256≤p)with
   |true=>rw[h2]at h;simp at h
   |false=>
    rw[h2]at h;simp only[znl]at h⊢;have z1:=ybu (zigL n);have z2:=ybu l.length;cases h3:(k==0||k==1)with
    |true=>
     rw[h3]at h;simp only[znm];have h4:k=0∨k=1:=by simpa using h3
     rcases h4 with rfl|rfl<;>simp<;>omega
    |false=>
     rw[h3]at h;simp only[znl]at h⊢;rw[Bool.or_eq_false_iff]at h3;rw[h3.2];cases h5:(k==2)with
     |true=>
      rw[h5]at h;simp only[znm,znl]at h⊢;have hs:¬256<s.size:=fun e=>by rw[show decide (256<s.size)=true from by simpa using e]at h;simp at h
      have z3:=ybu s.data.toList.length;simp[Go.Va.textB];simp at z3;omega
     |false=>
      rw[h5]at h;simp only[znl]at h⊢;cases h6:(k==3)with
      |true=>
       rw[h6]at h;simp only[znm]at h⊢;generalize he:(bif decide (8≤d)then(30:Int)else bif decide (64<l.length)then 2 else 0)=e at h⊢;by_cases hz:e=0
       ·subst hz
        have:=yhb l (d+1) (p+1) h;simp;omega
       ·rw[yaV _ _ _ (by simpa using hz)]at h
        exact absurd h hz
      |false=>rw[h6]at h;simp at h
theorem yhb:∀(l:List Val) (d p:Nat),(yal.walkL l d (p,0)).2=0→(yaf.bytesL l).length+280*p≤280*(yal.walkL l d (p,0)).1
 |[],d,p,h=>by rw[yaU,yc3];simp
 |x::r,d,p,h=>by
  rw[yaL]at h⊢;simp only[bne_self_eq_false,znl]at h⊢;rw[ybc,znk];generalize hc:yal x d (p,0)=c at h⊢;obtain⟨q,e⟩:=c;by_cases hz:e=0
  ·subst hz
   have h1:=yha x d p (by rw[hc]);have h2:=yhb r d q h;rw[hc]at h1;dsimp only at h1;omega
  ·rw[yaV _ _ _ (by simpa using hz)]at h
   exact absurd h hz
end
theorem yec {x:Val}(h:(yal x 0 (0,0)).2=0):(yaf x).length≤71680:=by
 have h1:=yha x 0 0 h;have h2:=ycA x 0 (0,0) (fun _=>by decide) h;omega
theorem yer {l:List UInt8}{v:Int}(h:Lib.parseIntB 64 l= .ok v): -9223372036854775808≤v∧v≤9223372036854775807:=by
 unfold Lib.parseIntB at h;cases l with
 |nil=>cases h
 |cons c r=>
  dsimp only at h;split at h
  ·cases h
  ·cases h
  ·rename_i u hu
   split at h
   ·cases h
   ·rename_i h1
    split at h
    ·cases h
    ·rename_i h2
     cases h;by_cases hn:c.toNat=45
     ·simp[hn]at h2⊢
      omega
     ·simp[hn]at h1⊢
      omega
theorem yjv {s:List UInt8}{k:Nat}{x:Val}{k2:Nat}(h:yfA s k= .ok x k2):x.wf:=by
 unfold yfA at h;split at h
 ·rename_i v hv
  split at h
  ·cases h
   have:=yer hv;rw[Val.wf,Val.wf.wfL];exact⟨⟨by decide,by decide⟩,this,znq _,trivial⟩
  ·cases h
 ·cases h
def ycE (s:List UInt8):Val×Int:=
 match yn1 8 s 0 with
 | .deep=>(ylx,30)
 | .bad=>(ylx,8)
 | .ok x k=>if k<s.length then(ylx,8)else if checkL x≠0 then(ylx,checkL x)else(x,0)
end Go.Va
namespace Go.Proofs.YtpagmlndgblhhaaGreatDoor
open Go.RowKit Go.Own Go.Own.MapTy Go.Va Go.Sort
open Go.Own.Cells (sz enc)
theorem yaB (x:Val)(ck cn:Int)(cs:ByteArray)(la:Option Addr)(ln lc:Nat)(F:Nat→Prop)(w:World)(C:CF F w ⟨ck,cn,cs,la,ln,lc⟩ x)(hw:x.wf)(r:Int)(hr:checkL x=r):
  Calls Tryz.prog 55 #[.agg #[.int .i64 ck,.int .i64 cn,.string cs,.slice la ln lc]] w fun e w'=>e= .returned (.int .i64 r)∧Below w.heap.size w w':=by
 have C0:=C.mono (G:=fun j=>j<w.heap.size) (fun j _ h=>h);have K0:Keeps (fun _=>False) w ((w.alloc (.cells #[.int .i64 ck,.int .i64 cn,.string cs,.slice la ln lc] 38)).alloc (.cells #[.int .i64 0,.int .i64 0] 182)):=((Keeps.refl _ _).alloc _).alloc _;have CW:=zhd (show Calls Tryz.prog 99 #[.pointer (some ⟨w.heap.size+1,0,none⟩),.agg #[.int .i64 ck,.int .i64 cn,.string cs,.slice la ln lc],.int .i64 0] _ (yg6 _ (w.heap.size+1) (yal x 0 (0,0)))from yg9 x.parts x (znc _) (w.heap.size+1) 0 0 0 ⟨ck,cn,cs,la,ln,lc⟩ _ _ (show CX _ (w.heap.size+1) (0,0)from yar) (C0.keep K0 (fun _ _ f=>f)) (by omega) (by omega) (fun _=>by omega));have HC:=zh3 C0 hw hr;clear C C0 hw hr K0;go_enter Tryz.func55,Tryz.ntmps55;go_wp2_with fail;refine CW.o.mono ?_;rintro e w2 ⟨rfl,hX,hK⟩;have q:∀o,w2.cell? ⟨w.heap.size,o,none⟩=(#[.int .i64 ck,.int .i64 cn,.string cs,.slice la ln lc]:Array Value)[o]? :=fun o=>by
  rw[hK.cell (p:=⟨w.heap.size,o,none⟩) (by simp;omega) (show¬w.heap.size=w.heap.size+1 by omega),zch yaE]
 have q0:=q 0;have q1:=q 1;have q2:=q 2;have q3:=q 3;simp only[zmc,zma,zmb]at q0 q1 q2 q3;have c1:=hX.c1;have sz2:=hK.size;simp at sz2;have sz3:w.heap.size<w2.heap.size:=by omega
 have HK:=zhd (show Below w.heap.size w w2 from(((zal).alloc (by simp) _).trans (hK.below (B:=w.heap.size) (by simp;omega) (fun k hk e=>by omega))));clear q CW hX hK;generalize hc:yal x 0 (0,0)=c at*;cases he:(c.2 !=0)with
 |true=>
  have hr:=HC.o.2.2;unfold checkL at hr;rw[hc,he]at hr;simp only[znm]at hr;have HR:=zhd hr;clear hr hc;go_wp2_with fail;go_ret;exact⟨by rw[←HR.o];rfl,HK.o⟩
 |false=>
  have hr:=HC.o.2.2;unfold checkL at hr;rw[hc,he]at hr;simp only[znl]at hr;have hb:=yec (x:=x) (by rw[hc];simpa using he);have C2:=HC.o.1.keep (zkb (S:=fun _=>False) HK.o) (fun _ _ f=>f);have W2:WB (w2.alloc (.cells #[.slice none 0 0] 131)) w2.heap.size []:=⟨none,0,znb _ _,RowAt.nil _ _,fun e=>by cases e⟩;have C3:=C2.keep (S:=fun _=>False) ((Keeps.refl _ _).alloc (.cells #[.slice none 0 0] 131)) (fun _ _ f=>f);have CY:=zhd (yds x.parts x (znc _) w2.heap.size [] ⟨ck,cn,cs,la,ln,lc⟩ _ _ W2 C3 (fun j h=>⟨by omega,fun⟨v,h1,h2⟩=>by
   rw[znb]at h1;cases h1;cases h2⟩) HC.o.2.1 (by simp;omega))
  have HR:=zhd hr;clear hr hc C2 C3 W2;go_wp2_with fail;refine CY.o.mono ?_;rintro e w3 ⟨rfl,H3⟩;rw[List.nil_append]at H3;have HB3:=zhd (show Below w.heap.size w w3 from(HK.o.alloc (by omega) _).trans (H3.o.2.1.below (B:=w.heap.size) (by simp;omega) (fun k hk e=>e.elim (fun e=>by omega) (fun⟨v,h1,h2⟩=>by
   rw[znb]at h1;cases h1;cases h2))))
  have CL:=zhd (yme w2.heap.size _ _ H3.o.1);clear CY;go_wp2_with fail;refine CL.o.mono ?_;rintro e w4 ⟨rfl,rfl⟩;generalize hn:(yaf x).length=n at*;cases hg:decide (512<n)with
  |true=>
   rw[hg]at HR;have h5:(512:Int)<n:=by have:=znx hg;omega
   clear hn hg;go_wp2_with fail;go_ret;exact⟨by rw[←HR.o];rfl,HB3.o⟩
  |false=>
   rw[hg]at HR;have h5:¬(512:Int)<n:=by have:=zny hg;omega
   clear hn hg;go_wp2_with fail;go_ret;exact⟨by rw[←HR.o];rfl,HB3.o⟩
theorem yhS {w W:World}(h:Below w.heap.size w W)(x0 x1 x2 x3:Value):Below w.heap.size w ((((W.setCell ⟨w.heap.size,0,none⟩ x0).setCell ⟨w.heap.size,1,none⟩ x1).setCell ⟨w.heap.size,2,none⟩ x2).setCell ⟨w.heap.size,3,none⟩ x3):=
 (((h.setCell (znc _) _).setCell (znc _) _).setCell (znc _) _).setCell (znc _) _
theorem yob (B:Nat)(W:World)(x0 x1 x2 x3:Value):Keeps (fun j=>j=B) W ((((W.setCell ⟨B,0,none⟩ x0).setCell ⟨B,1,none⟩ x1).setCell ⟨B,2,none⟩ x2).setCell ⟨B,3,none⟩ x3):=
 ((((Keeps.refl (fun j=>j=B) W).setCell (p:=⟨B,0,none⟩) (.inl rfl) x0).setCell (p:=⟨B,1,none⟩) (.inl rfl) x1).setCell (p:=⟨B,2,none⟩) (.inl rfl) x2).setCell (p:=⟨B,3,none⟩) (.inl rfl) x3
def ynH (w:World)(r:Val×Int)(e:Ending)(w':World):Prop:=
 ∃c:VC,e= .returned (.tuple #[.agg #[.int .i64 c.kind,.int .i64 c.n,.string c.s,.slice c.la c.ln c.lc],.int .i64 r.2])∧CF (fun j=>w.heap.size≤j) w' c r.1∧Below w.heap.size w w'
end Go.Proofs.YtpagmlndgblhhaaGreatDoor
namespace Go.Va
open Go.Own Go.RowKit
def yl9 (s:List UInt8):Option Nat:=
 match Lib.atoiAll s with
 | .ok v=>if 0≤v∧v<100∧Lib.decDigits v.toNat=s then some v.toNat else none
 |_=>none
def yl0 (s:List UInt8):Option ByteArray:=if(ycE s).2=0∧(ycE s).1.kind=2 then some (ycE s).1.txt else none
end Go.Va
