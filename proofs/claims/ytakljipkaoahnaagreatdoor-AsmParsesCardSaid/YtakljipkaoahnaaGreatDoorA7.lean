/- Parts of the proof: what the functions and the plain laws give that later parts lean on. Conditions: none beyond those that each theorem names. -/
import Derived.Test.YtakljipkaoahnaaGreatDoorA6
set_option maxRecDepth 100000
set_option maxHeartbeats 8000000
namespace Go.Va
open Go.Own Go.RowKit
def bytesV:Val→List UInt8
 | .mk k n s l=>UInt8.ofNat (k%256).toNat::(bif k==1 then numB (zigL n)else bif k==2 then Go.Va.textB s.data.toList else bif k==3 then numB l.length++bytesL l else[])
where bytesL:List Val→List UInt8
 |[]=>[]
 |x::r=>bytesV x++bytesL r
theorem bytesV_eq (x:Val):bytesV x=UInt8.ofNat (x.kind%256).toNat::(bif x.kind==1 then numB (zigL x.num)else bif x.kind==2 then Go.Va.textB x.txt.data.toList else bif x.kind==3 then numB x.list.length++bytesV.bytesL x.list else[]):=by
 cases x
 rw[bytesV]
 rfl
theorem bytesL_cons (x:Val)(r:List Val):bytesV.bytesL (x::r)=bytesV x++bytesV.bytesL r:=by rw[bytesV.bytesL]
theorem bytesL_nil:bytesV.bytesL []=[]:=by rw[bytesV.bytesL]
def Val.wf:Val→Prop
 | .mk k n s l=>(-9223372036854775808≤k∧k≤9223372036854775807)∧(-9223372036854775808≤n∧n≤9223372036854775807)∧s.size≤140737488355328∧wfL l
where wfL:List Val→Prop
 |[]=>True
 |x::r=>x.wf∧wfL r
theorem Val.wf_eq (x:Val):x.wf↔(-9223372036854775808≤x.kind∧x.kind≤9223372036854775807)∧(-9223372036854775808≤x.num∧x.num≤9223372036854775807)∧x.txt.size≤140737488355328∧Val.wf.wfL x.list:=by
 cases x
 rw[Val.wf]
 rfl
theorem Val.wfL_mem {x:Val}:∀{l:List Val},Val.wf.wfL l→x∈l→x.wf
 |[],_,h=>by cases h
 |y::r,hw,h=>by
  rw[Val.wf.wfL]at hw
  rcases List.mem_cons.1 h with rfl|h
  ·exact hw.1
  ·exact Val.wfL_mem hw.2 h
theorem Val.wfL_iff:∀{l:List Val},Val.wf.wfL l↔∀x∈l,x.wf
 |[]=>by rw[Val.wf.wfL];simp
 |y::r=>by rw[Val.wf.wfL,Val.wfL_iff];simp
end Go.Va
namespace Go.Proofs.YtakljipkaoahnaaGreatDoor
open Go.RowKit Go.Own Go.Own.MapTy Go.Va Go.Sort
open Go.Own.Cells (sz enc)
theorem rowOf_alloc {W:World}{b j:Nat}(hb:b<W.heap.size)(o:Obj):rowOf (W.alloc o) b j↔rowOf W b j:=by
 unfold rowOf
 rw[Below.heap_alloc _ _ _ hb]
theorem write_other (x:Val)
  (b:Nat)(l:List UInt8)(ck cn:Int)(cs:ByteArray)(la:Option Addr)(ln lc:Nat)(F:Nat→Prop)(w:World)(H:WB w b l)(C:CF F w ⟨ck,cn,cs,la,ln,lc⟩ x)(hF:∀j,F j→j≠b∧¬rowOf w b j)(hw:x.wf)(hl:l.length+(bytesV x).length+12≤1099511627776)(r:List UInt8)(hr:bytesV x=r)
  (k1:(ck==1)=false)(k2:(ck==2)=false)(k3:(ck==3)=false):
  Calls Tryz.prog 108 #[.pointer (some ⟨b,0,none⟩),.agg #[.int .i64 ck,.int .i64 cn,.string cs,.slice la ln lc]] w (WPB w b (l++r))
  :=by
 have b0:=H.lt
 have hck:ck=x.kind:=C.kind
 have hcn:cn=x.num:=C.n
 have hcs:cs=x.txt:=C.s
 have hwf:=(Val.wf_eq x).1 hw
 have hbl:=hr
 rw[bytesV_eq]at hr
 rw[hbl]at hl
 have HC:=zh4 C hwf hbl hF
 clear C hwf hbl hw hF
 obtain⟨y,hy⟩:∃y,y=UInt8.ofNat (x.kind%256).toNat:=⟨_,rfl⟩
 rw[←hy]at hr
 have hyv:((ck%256):Int)=(y.toNat:Int):=by
  have h:(x.kind%256).toNat<256:=by omega
  rw[hy,UInt8.toNat_ofNat_of_lt' (by exact h)]
  omega
 have HY:=zhd hyv
 clear hy hyv
 rw[←hck,k1,k2,k3]at hr
 simp only[cond_false]at hr
 have HR:=zhd hr
 clear hr hck hcn hcs
 have H1:=H.alloc (.cells #[.int .i64 ck,.int .i64 cn,.string cs,.slice la ln lc] 39)
 have H2:=H1.1.alloc (.cells #[.int .u8 (ck%256)] 5)
 have hr0:∀j,rowOf ((w.alloc (.cells #[.int .i64 ck,.int .i64 cn,.string cs,.slice la ln lc] 39)).alloc (.cells #[.int .u8 (ck%256)] 5)) b j→j<w.heap.size:=fun j hj=>(H.row ((rowOf_alloc b0 _).1 ((rowOf_alloc (by simp;omega) _).1 hj))).2
 have CB:=zhd (show Calls Tryz.prog 143 #[.pointer (some ⟨b,0,none⟩),.slice (some ⟨w.heap.size+1,0,none⟩) 1 1] _ (WPB _ b (l++[y]))from byte_any b l [y] (w.heap.size+1) 1 _ H2.1 (fun j u hu=>by
  rw[zch heap_new2]
  cases j with
  |zero=>rw[HY.out];simpa[byteV]using hu
  |succ j=>simp at hu) (by simp;omega))
 have HK:=zh3 H1.2 H2.2 hr0
 clear H1 H2 hr0
 have HH:=zhd H
 clear H
 go_enter Tryz.func108,Tryz.ntmps108
 go_wp2_with fail
 refine CB.out.mono ?_
 rintro e w2 ⟨rfl,HW2⟩
 have q:∀o,w2.cell? ⟨w.heap.size,o,none⟩=(#[.int .i64 ck,.int .i64 cn,.string cs,.slice la ln lc]:Array Value)[o]? :=fun o=>by
  rw[HW2.out.2.cell (by simp;omega) (by omega) (fun h=>by have:=HK.out.2.2 _ h;omega),zch heap_lt2]
 have q0:=q 0
 have q1:=q 1
 have q2:=q 2
 have q3:=q 3
 simp only[List.getElem?_toArray,List.getElem?_cons_zero,List.getElem?_cons_succ]at q0 q1 q2 q3
 have K2:=zhd ((HK.out.1.trans HK.out.2.1).trans HW2.out.2)
 have sz2:w.heap.size+1<w2.heap.size:=by have:=HW2.out.2.1.size;simp at this;omega
 clear q CB
 go_wp2_with fail
 go_end0
 exact⟨rfl,zhd ⟨by rw[←HR.out];exact HW2.out.1,K2.out⟩⟩
theorem write_int (x:Val)
  (b:Nat)(l:List UInt8)(ck cn:Int)(cs:ByteArray)(la:Option Addr)(ln lc:Nat)(F:Nat→Prop)(w:World)(H:WB w b l)(C:CF F w ⟨ck,cn,cs,la,ln,lc⟩ x)(hF:∀j,F j→j≠b∧¬rowOf w b j)(hw:x.wf)(hl:l.length+(bytesV x).length+12≤1099511627776)(r:List UInt8)(hr:bytesV x=r)
  (k1:ck=1):
  Calls Tryz.prog 108 #[.pointer (some ⟨b,0,none⟩),.agg #[.int .i64 ck,.int .i64 cn,.string cs,.slice la ln lc]] w (WPB w b (l++r))
  :=by
 subst k1
 have b0:=H.lt
 have hck:1=x.kind:=C.kind
 have hcn:cn=x.num:=C.n
 have hcs:cs=x.txt:=C.s
 have hwf:=(Val.wf_eq x).1 hw
 have hbl:=hr
 rw[bytesV_eq]at hr
 rw[hbl]at hl
 have HC:=zh4 C hwf hbl hF
 clear C hwf hbl hw hF
 obtain⟨y,hy⟩:∃y,y=UInt8.ofNat (x.kind%256).toNat:=⟨_,rfl⟩
 rw[←hy]at hr
 have hyv:(1:Int)=(y.toNat:Int):=by
  have h:(x.kind%256).toNat<256:=by omega
  rw[hy,UInt8.toNat_ofNat_of_lt' (by exact h)]
  omega
 have HY:=zhd hyv
 clear hy hyv
 rw[←hck]at hr
 simp only[beq_self_eq_true,cond_true]at hr
 have HR:=zhd hr
 have hn:=HC.out.2.1.2.1
 rw[←hcn]at hn hr
 have HR:=zhd hr
 clear hr hck hcn hcs
 have H1:=H.alloc (.cells #[.int .i64 1,.int .i64 cn,.string cs,.slice la ln lc] 39)
 have H2:=H1.1.alloc (.cells #[.int .u8 1] 5)
 have hr0:∀j,rowOf ((w.alloc (.cells #[.int .i64 1,.int .i64 cn,.string cs,.slice la ln lc] 39)).alloc (.cells #[.int .u8 1] 5)) b j→j<w.heap.size:=fun j hj=>(H.row ((rowOf_alloc b0 _).1 ((rowOf_alloc (by simp;omega) _).1 hj))).2
 have CB:=zhd (show Calls Tryz.prog 143 #[.pointer (some ⟨b,0,none⟩),.slice (some ⟨w.heap.size+1,0,none⟩) 1 1] _ (WPB _ b (l++[y]))from byte_any b l [y] (w.heap.size+1) 1 _ H2.1 (fun j u hu=>by
  rw[zch heap_new2]
  cases j with
  |zero=>rw[HY.out];simpa[byteV]using hu
  |succ j=>simp at hu) (by simp;omega))
 have HK:=zh3 H1.2 H2.2 hr0
 clear H1 H2 hr0
 have HH:=zhd H
 clear H
 go_enter Tryz.func108,Tryz.ntmps108
 go_wp2_with fail
 refine CB.out.mono ?_
 rintro e w2 ⟨rfl,HW2⟩
 have q:∀o,w2.cell? ⟨w.heap.size,o,none⟩=(#[.int .i64 1,.int .i64 cn,.string cs,.slice la ln lc]:Array Value)[o]? :=fun o=>by
  rw[HW2.out.2.cell (by simp;omega) (by omega) (fun h=>by have:=HK.out.2.2 _ h;omega),zch heap_lt2]
 have q0:=q 0
 have q1:=q 1
 have q2:=q 2
 have q3:=q 3
 simp only[List.getElem?_toArray,List.getElem?_cons_zero,List.getElem?_cons_succ]at q0 q1 q2 q3
 have K2:=zhd ((HK.out.1.trans HK.out.2.1).trans HW2.out.2)
 have sz2:w.heap.size+1<w2.heap.size:=by have:=HW2.out.2.1.size;simp at this;omega
 clear q CB
 have b2:=HW2.out.1.lt
 have HA:=HW2.out.1.alloc (.cells #[.int .i64 cn] 2)
 have CI:=zhd (int_any b (l++[y]) cn w2.heap.size 1 _ HA.1 (by rw[zch (heap_alloc_new _ _)];rfl) hn.1 hn.2 (by have h:=congrArg List.length HR.out;simp at h⊢;omega))
 clear hn
 go_wp2_with fail
 refine CI.out.mono ?_
 rintro e w3 ⟨rfl,H3⟩
 go_wp2_with fail
 go_end0
 refine⟨rfl,zhd ⟨?_,(K2.out.trans HA.2).trans H3.out.2⟩⟩
 rw[←HR.out]
 have:=H3.out.1
 rw[List.append_assoc]at this
 exact this
theorem write_text (x:Val)
  (b:Nat)(l:List UInt8)(ck cn:Int)(cs:ByteArray)(la:Option Addr)(ln lc:Nat)(F:Nat→Prop)(w:World)(H:WB w b l)(C:CF F w ⟨ck,cn,cs,la,ln,lc⟩ x)(hF:∀j,F j→j≠b∧¬rowOf w b j)(hw:x.wf)(hl:l.length+(bytesV x).length+12≤1099511627776)(r:List UInt8)(hr:bytesV x=r)
  (k1:ck=2):
  Calls Tryz.prog 108 #[.pointer (some ⟨b,0,none⟩),.agg #[.int .i64 ck,.int .i64 cn,.string cs,.slice la ln lc]] w (WPB w b (l++r))
  :=by
 subst k1
 have b0:=H.lt
 have hck:2=x.kind:=C.kind
 have hcn:cn=x.num:=C.n
 have hcs:cs=x.txt:=C.s
 have hwf:=(Val.wf_eq x).1 hw
 have hbl:=hr
 rw[bytesV_eq]at hr
 rw[hbl]at hl
 have HC:=zh4 C hwf hbl hF
 clear C hwf hbl hw hF
 obtain⟨y,hy⟩:∃y,y=UInt8.ofNat (x.kind%256).toNat:=⟨_,rfl⟩
 rw[←hy]at hr
 have hyv:(2:Int)=(y.toNat:Int):=by
  have h:(x.kind%256).toNat<256:=by omega
  rw[hy,UInt8.toNat_ofNat_of_lt' (by exact h)]
  omega
 have HY:=zhd hyv
 clear hy hyv
 rw[←hck,←hcs]at hr
 have e1:((2:Int)==1)=false:=rfl
 rw[e1]at hr
 simp only[beq_self_eq_true,cond_true,cond_false]at hr
 have HR:=zhd hr
 have hsz:l.length+1+cs.size+12≤1099511627776:=by
  have h:=congrArg List.length hr
  simp[Go.Va.textB]at h
  omega
 clear hr hck hcn hcs e1
 have H1:=H.alloc (.cells #[.int .i64 2,.int .i64 cn,.string cs,.slice la ln lc] 39)
 have H2:=H1.1.alloc (.cells #[.int .u8 2] 5)
 have hr0:∀j,rowOf ((w.alloc (.cells #[.int .i64 2,.int .i64 cn,.string cs,.slice la ln lc] 39)).alloc (.cells #[.int .u8 2] 5)) b j→j<w.heap.size:=fun j hj=>(H.row ((rowOf_alloc b0 _).1 ((rowOf_alloc (by simp;omega) _).1 hj))).2
 have CB:=zhd (show Calls Tryz.prog 143 #[.pointer (some ⟨b,0,none⟩),.slice (some ⟨w.heap.size+1,0,none⟩) 1 1] _ (WPB _ b (l++[y]))from byte_any b l [y] (w.heap.size+1) 1 _ H2.1 (fun j u hu=>by
  rw[zch heap_new2]
  cases j with
  |zero=>rw[HY.out];simpa[byteV]using hu
  |succ j=>simp at hu) (by simp;omega))
 have HK:=zh3 H1.2 H2.2 hr0
 clear H1 H2 hr0
 have HH:=zhd H
 clear H
 go_enter Tryz.func108,Tryz.ntmps108
 go_wp2_with fail
 refine CB.out.mono ?_
 rintro e w2 ⟨rfl,HW2⟩
 have q:∀o,w2.cell? ⟨w.heap.size,o,none⟩=(#[.int .i64 2,.int .i64 cn,.string cs,.slice la ln lc]:Array Value)[o]? :=fun o=>by
  rw[HW2.out.2.cell (by simp;omega) (by omega) (fun h=>by have:=HK.out.2.2 _ h;omega),zch heap_lt2]
 have q0:=q 0
 have q1:=q 1
 have q2:=q 2
 have q3:=q 3
 simp only[List.getElem?_toArray,List.getElem?_cons_zero,List.getElem?_cons_succ]at q0 q1 q2 q3
 have K2:=zhd ((HK.out.1.trans HK.out.2.1).trans HW2.out.2)
 have sz2:w.heap.size+1<w2.heap.size:=by have:=HW2.out.2.1.size;simp at this;omega
 clear q CB
 have CT:=zhd (wtext_any b (l++[y]) cs _ HW2.out.1 (by simp;omega))
 go_wp2_with fail
 refine CT.out.mono ?_
 rintro e w3 ⟨rfl,H3⟩
 go_wp2_with fail
 go_end0
 refine⟨rfl,zhd ⟨?_,K2.out.trans H3.out.2⟩⟩
 rw[←HR.out]
 have:=H3.out.1
 rw[List.append_assoc]at this
 exact this
def YRel (w:World)(b:Nat)(x:Val)(L:List UInt8)(gk:Nat)(v39:Value)(wr:World):Prop:=
 ∃(i:Nat) (l1:List UInt8),v39= .int .i64 i∧i≤x.list.length∧gk=x.list.length - i∧WB wr b l1∧l1++bytesV.bytesL (x.list.drop i)=L∧WK b w wr
theorem write_list (n:Nat)(IH:∀(x:Val),x.parts≤n→∀(b:Nat) (l:List UInt8) (c:VC) (F:Nat→Prop) (w:World),WB w b l→CF F w c x→(∀j,F j→j≠b∧¬rowOf w b j)→x.wf→l.length+(bytesV x).length+12≤1099511627776→
   Calls Tryz.prog 108 #[.pointer (some ⟨b,0,none⟩),.agg #[.int .i64 c.kind,.int .i64 c.n,.string c.s,.slice c.la c.ln c.lc]] w (WPB w b (l++bytesV x)))
  (x:Val)
  (b:Nat)(l:List UInt8)(ck cn:Int)(cs:ByteArray)(la:Option Addr)(ln lc:Nat)(F:Nat→Prop)(w:World)(H:WB w b l)(C:CF F w ⟨ck,cn,cs,la,ln,lc⟩ x)(hF:∀j,F j→j≠b∧¬rowOf w b j)(hw:x.wf)(hl:l.length+(bytesV x).length+12≤1099511627776)(r:List UInt8)(hr:bytesV x=r)
  (k1:ck=3)(hx:x.parts≤n+1)(g off:Nat)
  (hel:ln=x.list.length∧ln≤maxLen∧(∀(i:Nat) (y:Val),x.list[i]? =some y→F g∧g<w.heap.size∧∃c,CF F w c y∧
    w.cell? ⟨g,off+i*4,none⟩=some (.int .i64 c.kind)∧w.cell? ⟨g,off+i*4+1,none⟩=some (.int .i64 c.n)∧w.cell? ⟨g,off+i*4+2,none⟩=some (.string c.s)∧w.cell? ⟨g,off+i*4+3,none⟩=some (.slice c.la c.ln c.lc)))(hla:la=some ⟨g,off,none⟩∨x.list=[]):
  Calls Tryz.prog 108 #[.pointer (some ⟨b,0,none⟩),.agg #[.int .i64 ck,.int .i64 cn,.string cs,.slice la ln lc]] w (WPB w b (l++r))
  :=by
 subst k1
 have b0:=H.lt
 have hck:3=x.kind:=C.kind
 have hcn:cn=x.num:=C.n
 have hcs:cs=x.txt:=C.s
 have hwf:=(Val.wf_eq x).1 hw
 have hbl:=hr
 rw[bytesV_eq]at hr
 rw[hbl]at hl
 have HC:=zh4 C hwf hbl hF
 clear C hwf hbl hw hF
 obtain⟨y,hy⟩:∃y,y=UInt8.ofNat (x.kind%256).toNat:=⟨_,rfl⟩
 rw[←hy]at hr
 have hyv:(3:Int)=(y.toNat:Int):=by
  have h:(x.kind%256).toNat<256:=by omega
  rw[hy,UInt8.toNat_ofNat_of_lt' (by exact h)]
  omega
 have HY:=zhd hyv
 clear hy hyv
 rw[←hck]at hr
 have e1:((3:Int)==1)=false:=rfl
 have e2:((3:Int)==2)=false:=rfl
 rw[e1,e2]at hr
 simp only[beq_self_eq_true,cond_true,cond_false]at hr
 obtain⟨hln,hlm,hel⟩:=hel
 rw[←hln]at hr
 have HR:=zhd hr
 have HE:=zhd hel
 have HL:=zhd hln
 have HLA:=zhd hla
 unfold maxLen at hlm
 have HII:=zhd IH
 clear hr hck hcn hcs e1 e2 hel hln IH hla
 have H1:=H.alloc (.cells #[.int .i64 3,.int .i64 cn,.string cs,.slice la ln lc] 39)
 have H2:=H1.1.alloc (.cells #[.int .u8 3] 5)
 have hr0:∀j,rowOf ((w.alloc (.cells #[.int .i64 3,.int .i64 cn,.string cs,.slice la ln lc] 39)).alloc (.cells #[.int .u8 3] 5)) b j→j<w.heap.size:=fun j hj=>(H.row ((rowOf_alloc b0 _).1 ((rowOf_alloc (by simp;omega) _).1 hj))).2
 have CB:=zhd (show Calls Tryz.prog 143 #[.pointer (some ⟨b,0,none⟩),.slice (some ⟨w.heap.size+1,0,none⟩) 1 1] _ (WPB _ b (l++[y]))from byte_any b l [y] (w.heap.size+1) 1 _ H2.1 (fun j u hu=>by
  rw[zch heap_new2]
  cases j with
  |zero=>rw[HY.out];simpa[byteV]using hu
  |succ j=>simp at hu) (by simp;omega))
 have HK:=zh3 H1.2 H2.2 hr0
 clear H1 H2 hr0
 have HH:=zhd H
 clear H
 go_enter Tryz.func108,Tryz.ntmps108
 go_wp2_with fail
 refine CB.out.mono ?_
 rintro e w2 ⟨rfl,HW2⟩
 have q:∀o,w2.cell? ⟨w.heap.size,o,none⟩=(#[.int .i64 3,.int .i64 cn,.string cs,.slice la ln lc]:Array Value)[o]? :=fun o=>by
  rw[HW2.out.2.cell (by simp;omega) (by omega) (fun h=>by have:=HK.out.2.2 _ h;omega),zch heap_lt2]
 have q0:=q 0
 have q1:=q 1
 have q2:=q 2
 have q3:=q 3
 simp only[List.getElem?_toArray,List.getElem?_cons_zero,List.getElem?_cons_succ]at q0 q1 q2 q3
 have K2:=zhd ((HK.out.1.trans HK.out.2.1).trans HW2.out.2)
 have sz2:w.heap.size+1<w2.heap.size:=by have:=HW2.out.2.1.size;simp at this;omega
 clear q CB
 have b2:=HW2.out.1.lt
 have HA:=HW2.out.1.alloc (.cells #[.int .u64 ln] 201)
 have CN:=zhd (num_any b (l++[y]) ln w2.heap.size 1 _ HA.1 (by rw[zch (heap_alloc_new _ _)];rfl) (by omega) (by have h:=congrArg List.length HR.out;simp at h⊢;omega))
 go_wp2_with fail
 refine CN.out.mono ?_
 rintro e w3 ⟨rfl,H3⟩
 have hr2:∀j,rowOf (w2.alloc (.cells #[.int .u64 ln] 201)) b j→j<w.heap.size∨w.heap.size+2≤j:=fun j hj=>by
  rcases HW2.out.2.2 j ((rowOf_alloc b2 _).1 hj)with h|h
  ·exact .inl (HK.out.2.2 j h)
  ·simp at h;exact .inr h
 have q:∀o,w3.cell? ⟨w.heap.size,o,none⟩=w2.cell? ⟨w.heap.size,o,none⟩:=fun o=>by
  rw[H3.out.2.cell (by simp;omega) (by omega) (fun h=>by have:=hr2 _ h;omega)]
  exact World.cell?_of_block (w:=w2) (Below.heap_alloc _ _ _ (show w.heap.size<w2.heap.size by omega))
 rw[←q 0]at q0
 rw[←q 1]at q1
 rw[←q 2]at q2
 rw[←q 3]at q3
 have K3:=zhd ((K2.out.trans HA.2).trans H3.out.2)
 have hW3:=H3.out.1
 clear q CN hr2 H3 HA HK K2
 go_wp2_with fail
 go_loopg [39] (x.list.length) (fun gk v39 wr=>YRel w b x (l++r) gk v39 wr)
 case atStart=>exact⟨0,_,rfl,Nat.zero_le _,rfl,hW3,(by rw[←HR.out];simp),K3.out⟩
 case round=>
  clear q0 q1 q2 q3 hW3 K3
  obtain⟨i,l1,rfl,hi,hgk,hW,he,hK⟩:=hrel
  by_cases hin:i<ln
  ·obtain⟨z,hz⟩:=elem_at (l:=x.list) (k:=i) (by have:=HL.out;omega)
   obtain⟨hFg,hg,c',hC,q0,q1,q2,q3⟩:=HE.out i z hz
   have hgF:=HC.out.2.2.2 g hFg
   have hin':(i:Int)<ln:=by omega
   have hla:la=some ⟨g,off,none⟩:=HLA.out.resolve_right (fun e=>by rw[e]at hz;simp at hz)
   have szr:=hK.1.size
   have b1:=hW.lt
   rw[←hK.cell hg hgF.1 hgF.2]at q0 q1 q2 q3
   have hdr:x.list.drop i=z::x.list.drop (i+1):=by
    rw[List.drop_eq_getElem_cons (zge hz).1,(zge hz).2]
   rw[hdr,bytesL_cons]at he
   have hzm:=zmg hz
   have hC':=(hC.mono (G:=fun j=>F j∧j<w.heap.size) (fun j h l=>⟨h,l⟩)).keep hK.1 (fun j h e=>e.elim (HC.out.2.2.2 j h.1).1 (HC.out.2.2.2 j h.1).2)
   have hHA:=hW.alloc (.cells #[.int .i64 c'.kind,.int .i64 c'.n,.string c'.s,.slice c'.la c'.ln c'.lc] 39)
   have hCA:=hC'.keep (S:=fun _=>False) ((Keeps.refl _ _).alloc (.cells #[.int .i64 c'.kind,.int .i64 c'.n,.string c'.s,.slice c'.la c'.ln c'.lc] 39)) (fun _ _ f=>f)
   have CA:=zhd (HII.out z (by have:=Val.parts_lt (v:=x) hzm;omega) b l1 c' _ _ hHA.1 hCA (fun j h=>⟨(HC.out.2.2.2 j h.1).1,fun hj=>by
    rcases hK.2 j ((rowOf_alloc b1 _).1 hj)with h1|h1
    ·exact(HC.out.2.2.2 j h.1).2 h1
    ·have:=h.2;omega⟩) (Val.wfL_mem HC.out.2.1.2.2.2 hzm) (by have h:=congrArg List.length he;simp at h;omega))
   have HX:=zh3 he (hK.trans hHA.2) hgk
   subst hla
   clear hW he hK hgk hC hC' hHA hCA hdr hz hzm
   go_wp2_with fail
   refine CA.out.mono ?_
   rintro e w5 ⟨rfl,H5⟩
   go_wp2_with fail
   go_roundg (x.list.length - (i+1))
   case measure=>have:=HX.out.2.2;have:=HL.out;omega
   case rel=>exact⟨i+1,_,by simp,(by have:=HL.out;omega),rfl,H5.out.1,(by rw[List.append_assoc];exact HX.out.1),HX.out.2.1.trans H5.out.2⟩
  ·obtain rfl:i=ln:=by have:=HL.out;omega
   rw[List.drop_eq_nil_of_le (by have:=HL.out;omega),bytesL_nil,List.append_nil]at he
   have HX:=zh3 he hW hK
   clear hW he hK hgk
   go_wp2_with fail
   go_end0
   exact⟨rfl,zhd ⟨by rw[←HX.out.1];exact HX.out.2.1,HX.out.2.2⟩⟩
theorem write_any:∀(n:Nat) (x:Val),x.parts≤n→∀(b:Nat) (l:List UInt8) (c:VC) (F:Nat→Prop) (w:World),WB w b l→CF F w c x→(∀j,F j→j≠b∧¬rowOf w b j)→x.wf→l.length+(bytesV x).length+12≤1099511627776→
   Calls Tryz.prog 108 #[.pointer (some ⟨b,0,none⟩),.agg #[.int .i64 c.kind,.int .i64 c.n,.string c.s,.slice c.la c.ln c.lc]] w (WPB w b (l++bytesV x))
 |0,x,hx,_,_,_,_,_,_,_,_,_,_=>by have:=x.parts_pos;omega
 |n+1,x,hx,b,l,⟨ck,cn,cs,la,ln,lc⟩,F,w,H,C,hF,hw,hl=>by
  by_cases k1:ck=1
  ·exact write_int x b l ck cn cs la ln lc F w H C hF hw hl _ rfl k1
  ·by_cases k2:ck=2
   ·exact write_text x b l ck cn cs la ln lc F w H C hF hw hl _ rfl k2
   ·by_cases k3:ck=3
    ·obtain⟨h4,h5,h6⟩:=C.l.elems
     rcases h6 with h6|⟨g,off,hla,hFg,hg,h6⟩
     ·exact write_list n (fun y hy=>write_any n y hy) x b l ck cn cs la ln lc F w H C hF hw hl _ rfl k3 hx 0 0 ⟨h4,h5,fun i y hy=>by rw[h6]at hy;simp at hy⟩ (.inr h6)
     ·exact write_list n (fun y hy=>write_any n y hy) x b l ck cn cs la ln lc F w H C hF hw hl _ rfl k3 hx g off ⟨h4,h5,fun i y hy=>⟨hFg,hg,h6 i y hy⟩⟩ (.inl hla)
    ·exact write_other x b l ck cn cs la ln lc F w H C hF hw hl _ rfl (beq_eq_false_iff_ne.2 k1) (beq_eq_false_iff_ne.2 k2) (beq_eq_false_iff_ne.2 k3)
end Go.Proofs.YtakljipkaoahnaaGreatDoor
namespace Go.Va
open Go.Own Go.RowKit
def cmpV:Val→Val→Int
 | .mk k n s l,y=>
   bif k !=y.kind then(bif decide (k<y.kind)then -1 else 1)else
   bif k==1 then(bif n !=y.num then(bif decide (n<y.num)then -1 else 1)else 0)else
   bif k==2 then Lib.compareBytes s.data.toList y.txt.data.toList else
   bif k==3 then cmpLs l y.list else 0
where cmpLs:List Val→List Val→Int
 |[],ys=>bif decide (0<ys.length)then -1 else 0
 |_::_,[]=>1
 |x::r,y::s=>bif cmpV x y !=0 then cmpV x y else cmpLs r s
theorem cmpV_eq (x y:Val):cmpV x y=
  bif x.kind !=y.kind then(bif decide (x.kind<y.kind)then -1 else 1)else
  bif x.kind==1 then(bif x.num !=y.num then(bif decide (x.num<y.num)then -1 else 1)else 0)else
  bif x.kind==2 then Lib.compareBytes x.txt.data.toList y.txt.data.toList else
  bif x.kind==3 then cmpV.cmpLs x.list y.list else 0:=by
 cases x
 rw[cmpV]
 rfl
theorem cmpL_nil (ys:List Val):cmpV.cmpLs [] ys=bif decide (0<ys.length)then -1 else 0:=by rw[cmpV.cmpLs]
theorem cmpL_one (x:Val)(r:List Val):cmpV.cmpLs (x::r) []=1:=by rw[cmpV.cmpLs]
theorem cmpL_cons (x y:Val)(r s:List Val):cmpV.cmpLs (x::r) (y::s)=bif cmpV x y !=0 then cmpV x y else cmpV.cmpLs r s:=by rw[cmpV.cmpLs]
end Go.Va
namespace Go.Proofs.YtakljipkaoahnaaGreatDoor
open Go.RowKit Go.Own Go.Own.MapTy Go.Va Go.Sort
open Go.Own.Cells (sz enc)
theorem cmp_kind (x y:Val)
  (ck cn:Int)(cs:ByteArray)(la:Option Addr)(ln lc:Nat)(dk dn:Int)(ds:ByteArray)(ma:Option Addr)(mn mc:Nat)(F F':Nat→Prop)(w:World)(C:CF F w ⟨ck,cn,cs,la,ln,lc⟩ x)(D:CF F' w ⟨dk,dn,ds,ma,mn,mc⟩ y)(r:Int)(hr:cmpV x y=r)
  (hk:(ck !=dk)=true):
  Calls Tryz.prog 46 #[.agg #[.int .i64 ck,.int .i64 cn,.string cs,.slice la ln lc],.agg #[.int .i64 dk,.int .i64 dn,.string ds,.slice ma mn mc]] w fun e w'=>e= .returned (.int .i64 r)∧Below w.heap.size w w'
  :=by
 rw[cmpV_eq]at hr
 have h1:ck=x.kind:=C.kind
 have h2:cn=x.num:=C.n
 have h3:cs=x.txt:=C.s
 have g1:dk=y.kind:=D.kind
 have g2:dn=y.num:=D.n
 have g3:ds=y.txt:=D.s
 rw[←h1,←h2,←h3,←g1,←g2,←g3]at hr
 clear h1 h2 h3 g1 g2 g3
 have HC:=zh2 C D
 clear C D
 rw[hk]at hr
 simp only[cond_true]at hr
 have hk2:(ck==dk)=false:=by simpa using hk
 have HR:=zhd hr
 clear hr
 have CS:=zhd (fun W=>sign_any (decide (ck<dk)) W)
 have HB:=zhd ((((Below.refl w.heap.size w).alloc (Nat.le_refl _) (.cells #[.int .i64 ck,.int .i64 cn,.string cs,.slice la ln lc] 39)).alloc (by simp) (.cells #[.int .i64 dk,.int .i64 dn,.string ds,.slice ma mn mc] 39)))
 generalize hd:decide (ck<dk)=b at*
 go_enter Tryz.func46,Tryz.ntmps46
 go_wp2_with fail
 refine(CS.out _).mono ?_
 rintro e w1 ⟨rfl,rfl⟩
 go_wp2_with fail
 go_ret
 exact⟨by rw[←HR.out];rfl,HB.out⟩
theorem cmp_int (x y:Val)
  (ck cn:Int)(cs:ByteArray)(la:Option Addr)(ln lc:Nat)(dk dn:Int)(ds:ByteArray)(ma:Option Addr)(mn mc:Nat)(F F':Nat→Prop)(w:World)(C:CF F w ⟨ck,cn,cs,la,ln,lc⟩ x)(D:CF F' w ⟨dk,dn,ds,ma,mn,mc⟩ y)(r:Int)(hr:cmpV x y=r)
  (hk:ck=dk)(h1:ck=1):
  Calls Tryz.prog 46 #[.agg #[.int .i64 ck,.int .i64 cn,.string cs,.slice la ln lc],.agg #[.int .i64 dk,.int .i64 dn,.string ds,.slice ma mn mc]] w fun e w'=>e= .returned (.int .i64 r)∧Below w.heap.size w w'
  :=by
 rw[cmpV_eq]at hr
 have h1:ck=x.kind:=C.kind
 have h2:cn=x.num:=C.n
 have h3:cs=x.txt:=C.s
 have g1:dk=y.kind:=D.kind
 have g2:dn=y.num:=D.n
 have g3:ds=y.txt:=D.s
 rw[←h1,←h2,←h3,←g1,←g2,←g3]at hr
 clear h1 h2 h3 g1 g2 g3
 have HC:=zh2 C D
 clear C D
 have hk1:(ck !=dk)=false:=by rw[hk];simp
 rw[hk1]at hr
 simp only[cond_false]at hr
 subst hk
 have HB:=zhd ((((Below.refl w.heap.size w).alloc (Nat.le_refl _) (.cells #[.int .i64 ck,.int .i64 cn,.string cs,.slice la ln lc] 39)).alloc (by simp) (.cells #[.int .i64 ck,.int .i64 dn,.string ds,.slice ma mn mc] 39)))
 clear hk1
 subst h1
 simp only[beq_self_eq_true,cond_true]at hr
 cases hn:(cn !=dn)with
 |true=>
  rw[hn]at hr
  simp only[cond_true]at hr
  have hn2:(cn==dn)=false:=by simpa using hn
  have HR:=zhd hr
  clear hr
  have CS:=zhd (fun W=>sign_any (decide (cn<dn)) W)
  generalize hd:decide (cn<dn)=b at*
  go_enter Tryz.func46,Tryz.ntmps46
  go_wp2_with fail
  refine(CS.out _).mono ?_
  rintro e w1 ⟨rfl,rfl⟩
  go_wp2_with fail
  go_ret
  exact⟨by rw[←HR.out];rfl,HB.out⟩
 |false=>
  rw[hn]at hr
  simp only[cond_false]at hr
  obtain rfl:cn=dn:=by simpa using hn
  have HR:=zhd hr
  clear hr hn
  go_enter Tryz.func46,Tryz.ntmps46
  go_wp2_with fail
  go_ret
  exact⟨by rw[←HR.out];rfl,HB.out⟩
theorem cmp_text (x y:Val)
  (ck cn:Int)(cs:ByteArray)(la:Option Addr)(ln lc:Nat)(dk dn:Int)(ds:ByteArray)(ma:Option Addr)(mn mc:Nat)(F F':Nat→Prop)(w:World)(C:CF F w ⟨ck,cn,cs,la,ln,lc⟩ x)(D:CF F' w ⟨dk,dn,ds,ma,mn,mc⟩ y)(r:Int)(hr:cmpV x y=r)
  (hk:ck=dk)(h1:ck=2):
  Calls Tryz.prog 46 #[.agg #[.int .i64 ck,.int .i64 cn,.string cs,.slice la ln lc],.agg #[.int .i64 dk,.int .i64 dn,.string ds,.slice ma mn mc]] w fun e w'=>e= .returned (.int .i64 r)∧Below w.heap.size w w'
  :=by
 rw[cmpV_eq]at hr
 have h1:ck=x.kind:=C.kind
 have h2:cn=x.num:=C.n
 have h3:cs=x.txt:=C.s
 have g1:dk=y.kind:=D.kind
 have g2:dn=y.num:=D.n
 have g3:ds=y.txt:=D.s
 rw[←h1,←h2,←h3,←g1,←g2,←g3]at hr
 clear h1 h2 h3 g1 g2 g3
 have HC:=zh2 C D
 clear C D
 have hk1:(ck !=dk)=false:=by rw[hk];simp
 rw[hk1]at hr
 simp only[cond_false]at hr
 subst hk
 have HB:=zhd ((((Below.refl w.heap.size w).alloc (Nat.le_refl _) (.cells #[.int .i64 ck,.int .i64 cn,.string cs,.slice la ln lc] 39)).alloc (by simp) (.cells #[.int .i64 ck,.int .i64 dn,.string ds,.slice ma mn mc] 39)))
 clear hk1
 subst h1
 have e1:((2:Int)==1)=false:=rfl
 rw[e1]at hr
 simp only[beq_self_eq_true,cond_true,cond_false]at hr
 have CS:=zhd (fun W=>Any.strings_Compare Tryz.lays106 cs ds W)
 have HR:=zhd hr
 clear hr e1
 go_enter Tryz.func46,Tryz.ntmps46
 go_wp2_with fail
 refine(CS.out _).mono ?_
 rintro e w1 ⟨rfl,rfl⟩
 go_wp2_with fail
 go_ret
 exact⟨by rw[←HR.out];rfl,HB.out⟩
theorem cmp_other (x y:Val)
  (ck cn:Int)(cs:ByteArray)(la:Option Addr)(ln lc:Nat)(dk dn:Int)(ds:ByteArray)(ma:Option Addr)(mn mc:Nat)(F F':Nat→Prop)(w:World)(C:CF F w ⟨ck,cn,cs,la,ln,lc⟩ x)(D:CF F' w ⟨dk,dn,ds,ma,mn,mc⟩ y)(r:Int)(hr:cmpV x y=r)
  (hk:ck=dk)(h1:(ck==1)=false)(h2:(ck==2)=false)(h3:(ck==3)=false):
  Calls Tryz.prog 46 #[.agg #[.int .i64 ck,.int .i64 cn,.string cs,.slice la ln lc],.agg #[.int .i64 dk,.int .i64 dn,.string ds,.slice ma mn mc]] w fun e w'=>e= .returned (.int .i64 r)∧Below w.heap.size w w'
  :=by
 rw[cmpV_eq]at hr
 have h1:ck=x.kind:=C.kind
 have h2:cn=x.num:=C.n
 have h3:cs=x.txt:=C.s
 have g1:dk=y.kind:=D.kind
 have g2:dn=y.num:=D.n
 have g3:ds=y.txt:=D.s
 rw[←h1,←h2,←h3,←g1,←g2,←g3]at hr
 clear h1 h2 h3 g1 g2 g3
 have HC:=zh2 C D
 clear C D
 have hk1:(ck !=dk)=false:=by rw[hk];simp
 rw[hk1]at hr
 simp only[cond_false]at hr
 subst hk
 have HB:=zhd ((((Below.refl w.heap.size w).alloc (Nat.le_refl _) (.cells #[.int .i64 ck,.int .i64 cn,.string cs,.slice la ln lc] 39)).alloc (by simp) (.cells #[.int .i64 ck,.int .i64 dn,.string ds,.slice ma mn mc] 39)))
 clear hk1
 rw[h1,h2,h3]at hr
 simp only[cond_false]at hr
 have HR:=zhd hr
 clear hr
 go_enter Tryz.func46,Tryz.ntmps46
 go_wp2_with fail
 go_ret
 exact⟨by rw[←HR.out];rfl,HB.out⟩
def CRel (w2:World)(x y:Val)(r:Int)(gk:Nat)(v46:Value)(wr:World):Prop:=
 ∃i:Nat,v46= .int .i64 i∧i≤x.list.length∧i≤y.list.length∧gk=x.list.length - i∧cmpV.cmpLs (x.list.drop i) (y.list.drop i)=r∧Below w2.heap.size w2 wr
theorem cmp_list (n:Nat)(IH:∀(x:Val),x.parts≤n→∀(y:Val) (c d:VC) (F F':Nat→Prop) (w:World),CF F w c x→CF F' w d y→
   Calls Tryz.prog 46 #[.agg #[.int .i64 c.kind,.int .i64 c.n,.string c.s,.slice c.la c.ln c.lc],.agg #[.int .i64 d.kind,.int .i64 d.n,.string d.s,.slice d.la d.ln d.lc]] w fun e w'=>e= .returned (.int .i64 (cmpV x y))∧Below w.heap.size w w')
  (x y:Val)
  (ck cn:Int)(cs:ByteArray)(la:Option Addr)(ln lc:Nat)(dk dn:Int)(ds:ByteArray)(ma:Option Addr)(mn mc:Nat)(F F':Nat→Prop)(w:World)(C:CF F w ⟨ck,cn,cs,la,ln,lc⟩ x)(D:CF F' w ⟨dk,dn,ds,ma,mn,mc⟩ y)(r:Int)(hr:cmpV x y=r)
  (hk:ck=dk)(h1:ck=3)(hx:x.parts≤n+1)(g off g' off':Nat)
  (hel:ln=x.list.length∧ln≤maxLen∧(∀(i:Nat) (z:Val),x.list[i]? =some z→F g∧g<w.heap.size∧∃c,CF F w c z∧
    w.cell? ⟨g,off+i*4,none⟩=some (.int .i64 c.kind)∧w.cell? ⟨g,off+i*4+1,none⟩=some (.int .i64 c.n)∧w.cell? ⟨g,off+i*4+2,none⟩=some (.string c.s)∧w.cell? ⟨g,off+i*4+3,none⟩=some (.slice c.la c.ln c.lc)))(hla:la=some ⟨g,off,none⟩∨x.list=[])
  (hem:mn=y.list.length∧mn≤maxLen∧(∀(i:Nat) (z:Val),y.list[i]? =some z→F' g'∧g'<w.heap.size∧∃c,CF F' w c z∧
    w.cell? ⟨g',off'+i*4,none⟩=some (.int .i64 c.kind)∧w.cell? ⟨g',off'+i*4+1,none⟩=some (.int .i64 c.n)∧w.cell? ⟨g',off'+i*4+2,none⟩=some (.string c.s)∧w.cell? ⟨g',off'+i*4+3,none⟩=some (.slice c.la c.ln c.lc)))(hma:ma=some ⟨g',off',none⟩∨y.list=[]):
  Calls Tryz.prog 46 #[.agg #[.int .i64 ck,.int .i64 cn,.string cs,.slice la ln lc],.agg #[.int .i64 dk,.int .i64 dn,.string ds,.slice ma mn mc]] w fun e w'=>e= .returned (.int .i64 r)∧Below w.heap.size w w'
  :=by
 rw[cmpV_eq]at hr
 have h1:ck=x.kind:=C.kind
 have h2:cn=x.num:=C.n
 have h3:cs=x.txt:=C.s
 have g1:dk=y.kind:=D.kind
 have g2:dn=y.num:=D.n
 have g3:ds=y.txt:=D.s
 rw[←h1,←h2,←h3,←g1,←g2,←g3]at hr
 clear h1 h2 h3 g1 g2 g3
 have HC:=zh2 C D
 clear C D
 have hk1:(ck !=dk)=false:=by rw[hk];simp
 rw[hk1]at hr
 simp only[cond_false]at hr
 subst hk
 have HB:=zhd ((((Below.refl w.heap.size w).alloc (Nat.le_refl _) (.cells #[.int .i64 ck,.int .i64 cn,.string cs,.slice la ln lc] 39)).alloc (by simp) (.cells #[.int .i64 ck,.int .i64 dn,.string ds,.slice ma mn mc] 39)))
 clear hk1
 subst h1
 have e1:((3:Int)==1)=false:=rfl
 have e2:((3:Int)==2)=false:=rfl
 rw[e1,e2]at hr
 simp only[beq_self_eq_true,cond_true,cond_false]at hr
 obtain⟨hln,hlm,hel⟩:=hel
 obtain⟨hmn,hmm,hem⟩:=hem
 have HR:=zhd hr
 have HE:=zh2 hel hem
 have HL:=zh2 hln hmn
 have HLA:=zh2 hla hma
 have HI:=zhd IH
 unfold maxLen at hlm hmm
 clear hr e1 e2 hel hem hln hmn hla hma IH
 go_enter Tryz.func46,Tryz.ntmps46
 go_wp2_with fail
 obtain⟨w2,hw2⟩:∃w2,w2=(w.alloc (.cells #[.int .i64 3,.int .i64 cn,.string cs,.slice la ln lc] 39)).alloc (.cells #[.int .i64 3,.int .i64 dn,.string ds,.slice ma mn mc] 39):=⟨_,rfl⟩
 have p3:w2.cell? ⟨w.heap.size,3,none⟩=some (.slice la ln lc):=by rw[hw2,zch heap_lt2];rfl
 have p7:w2.cell? ⟨w.heap.size+1,3,none⟩=some (.slice ma mn mc):=by rw[hw2,zch heap_new2];rfl
 have sz2:w2.heap.size=w.heap.size+2:=by rw[hw2];simp
 rw[←hw2]at HB⊢
 have HP:=zh3 p3 p7 sz2
 clear hw2 p3 p7 sz2
 go_loopg [46] (x.list.length) (fun gk v46 wr=>CRel w2 x y r gk v46 wr)
 case atStart=>exact⟨0,rfl,Nat.zero_le _,Nat.zero_le _,rfl,HR.out,Below.refl _ _⟩
 case round=>
  obtain⟨i,rfl,hi,hj,hgk,hcm,hB⟩:=hrel
  have b1:=hB.size
  have s1:w.heap.size+1<wr.heap.size:=by have:=HP.out.2.2;omega
  have s0:w.heap.size<wr.heap.size:=by omega
  have p3:wr.cell? ⟨w.heap.size,3,none⟩=some (.slice la ln lc):=by rw[hB.cell (p:=⟨w.heap.size,3,none⟩) (show w.heap.size<w2.heap.size by have:=HP.out.2.2;omega)];exact HP.out.1
  have p7:wr.cell? ⟨w.heap.size+1,3,none⟩=some (.slice ma mn mc):=by rw[hB.cell (p:=⟨w.heap.size+1,3,none⟩) (show w.heap.size+1<w2.heap.size by have:=HP.out.2.2;omega)];exact HP.out.2.1
  have BW:=HB.out.trans (hB.mono (show w.heap.size≤w2.heap.size by have:=HP.out.2.2;omega))
  by_cases hin:i<ln
  ·obtain⟨z,hz⟩:=elem_at (l:=x.list) (k:=i) (by have:=HL.out.1;omega)
   obtain⟨hFg,hg,c',hC,q0,q1,q2,q3⟩:=HE.out.1 i z hz
   have hin':(i:Int)<ln:=by omega
   have hla:la=some ⟨g,off,none⟩:=HLA.out.1.resolve_right (fun e=>by rw[e]at hz;simp at hz)
   rw[←BW.cell (p:=⟨g,_,none⟩) hg]at q0 q1 q2 q3
   have hdr:x.list.drop i=z::x.list.drop (i+1):=by
    rw[List.drop_eq_getElem_cons (zge hz).1,(zge hz).2]
   have hgl:g<wr.heap.size:=by omega
   subst hla
   by_cases hjn:i<mn
   ·obtain⟨u,hu⟩:=elem_at (l:=y.list) (k:=i) (by have:=HL.out.2;omega)
    obtain⟨hFm,hm,d',hD,m0,m1,m2,m3⟩:=HE.out.2 i u hu
    have hjn':((i:Int)==mn)=false:=by rw[beq_eq_false_iff_ne];omega
    have hjn2:(i:Int)<mn:=by omega
    have hma:ma=some ⟨g',off',none⟩:=HLA.out.2.resolve_right (fun e=>by rw[e]at hu;simp at hu)
    rw[←BW.cell (p:=⟨g',_,none⟩) hm]at m0 m1 m2 m3
    have hds:y.list.drop i=u::y.list.drop (i+1):=by
     rw[List.drop_eq_getElem_cons (zge hu).1,(zge hu).2]
    have hml:g'<wr.heap.size:=by omega
    rw[hdr,hds,cmpL_cons]at hcm
    have CW:=zhd (fun W (hW:Below wr.heap.size wr W)=>HI.out z (by have:=Val.parts_lt (v:=x) (zmg hz);omega) u c' d' _ _ W (hC.keep (S:=fun _=>False) (zkb (BW.trans (hW.mono BW.size))) (fun _ _ f=>f)) (hD.keep (S:=fun _=>False) (zkb (BW.trans (hW.mono BW.size))) (fun _ _ f=>f)))
    generalize cmpV z u=cv at*
    have HX:=zh8 hcm hB hgk BW hj hi (zge hz).1 (zge hu).1
    subst hma
    clear hcm hB hgk BW hz hu hC hD hdr hds
    go_wp2_with fail
    obtain⟨w6,hw6⟩:∃w6,w6=wr.alloc (.cells #[.int .i64 c'.kind,.int .i64 c'.n,.string c'.s,.slice c'.la c'.ln c'.lc] 39):=⟨_,rfl⟩
    have K6:=zba hw6
    have sz6:w6.heap.size=wr.heap.size+1:=by rw[hw6];simp
    have z0:w6.cell? ⟨wr.heap.size,0,none⟩=some (.int .i64 c'.kind):=by rw[hw6,zch (heap_alloc_new _ _)];rfl
    have z1:w6.cell? ⟨wr.heap.size,1,none⟩=some (.int .i64 c'.n):=by rw[hw6,zch (heap_alloc_new _ _)];rfl
    have z2:w6.cell? ⟨wr.heap.size,2,none⟩=some (.string c'.s):=by rw[hw6,zch (heap_alloc_new _ _)];rfl
    have z3:w6.cell? ⟨wr.heap.size,3,none⟩=some (.slice c'.la c'.ln c'.lc):=by rw[hw6,zch (heap_alloc_new _ _)];rfl
    rw[←hw6]
    have H6:=zh2 K6 sz6
    have l6:wr.heap.size<w6.heap.size:=by omega
    rw[←K6.cell (p:=⟨g',_,none⟩) hml]at m0 m1 m2 m3
    rw[←K6.cell (p:=⟨w.heap.size+1,3,none⟩) s1]at p7
    have hml6:g'<w6.heap.size:=by omega
    have s16:w.heap.size+1<w6.heap.size:=by omega
    clear hw6 K6 sz6
    refine wp_region_ext (by kernel_rfl) (by kernel_rfl) ?_
    repeat(go_big_quiet_step ((go_at_call 46;exact ext_call (CW.out _ ((H6.out.1.trans ((Subtype.property _:Below w6.heap.size w6 _).mono (by have:=H6.out.2;omega))))))))
    refine wpQuiet_nil ?_
    intro w7 hB7
    have HB7:=zhd (H6.out.1.trans (hB7.mono (by have:=H6.out.2;omega)))
    clear hB7 CW
    cases hz:(cv !=0)with
    |true=>
     have hcm:=HX.out.1
     rw[hz]at hcm
     simp only[cond_true]at hcm
     have HM:=zhd hcm
     clear hcm
     go_wp2_with fail
     go_ret
     exact⟨by rw[←HM.out];rfl,HX.out.2.2.2.1.trans (HB7.out.mono HX.out.2.2.2.1.size)⟩
    |false=>
     have hcm:=HX.out.1
     rw[hz]at hcm
     simp only[cond_false]at hcm
     have HM:=zhd hcm
     clear hcm
     go_wp2_with fail
     go_roundg (x.list.length - (i+1))
     case measure=>have:=HX.out.2.2.1;have:=HX.out.2.2.2.2.2.2.1;omega
     case rel=>exact⟨i+1,by simp,HX.out.2.2.2.2.2.2.1,HX.out.2.2.2.2.2.2.2,rfl,HM.out,HX.out.2.1.trans (HB7.out.mono HX.out.2.1.size)⟩
   ·obtain rfl:i=mn:=by have:=HL.out.2;omega
    have hyn:y.list.drop i=[]:=List.drop_eq_nil_of_le (by have:=HL.out.2;omega)
    rw[hdr,hyn,cmpL_one]at hcm
    have HX:=zh2 hcm BW
    clear hcm hB hgk BW hz hC hdr
    go_wp2_with fail
    go_ret
    exact⟨by rw[←HX.out.1];rfl,HX.out.2.alloc (by have:=HX.out.2.size;omega) _⟩
  ·obtain rfl:i=ln:=by have:=HL.out.1;omega
   have hxn:x.list.drop i=[]:=List.drop_eq_nil_of_le (by have:=HL.out.1;omega)
   rw[hxn,cmpL_nil]at hcm
   have hdl:(y.list.drop i).length=mn - i:=by rw[List.length_drop,←HL.out.2]
   rw[hdl]at hcm
   clear hdl
   by_cases hlt:i<mn
   ·have e3:(i:Int)<mn:=by omega
    have e4:decide (i<mn)=true:=by rw[decide_eq_true_eq];exact hlt
    rw[show decide (0<mn - i)=true from by rw[decide_eq_true_eq];omega]at hcm
    have HX:=zh2 hcm BW
    clear hcm hB hgk BW
    go_wp2_with fail
    go_ret
    exact⟨by rw[←HX.out.1];rfl,HX.out.2⟩
   ·have e3:¬(i:Int)<mn:=by omega
    have e4:decide (i<mn)=false:=by rw[decide_eq_false_iff_not];exact hlt
    rw[show decide (0<mn - i)=false from by rw[decide_eq_false_iff_not];omega]at hcm
    have HX:=zh2 hcm BW
    clear hcm hB hgk BW
    go_wp2_with fail
    go_ret
    exact⟨by rw[←HX.out.1];rfl,HX.out.2⟩
theorem compare_any:∀(n:Nat) (x:Val),x.parts≤n→∀(y:Val) (c d:VC) (F F':Nat→Prop) (w:World),CF F w c x→CF F' w d y→
   Calls Tryz.prog 46 #[.agg #[.int .i64 c.kind,.int .i64 c.n,.string c.s,.slice c.la c.ln c.lc],.agg #[.int .i64 d.kind,.int .i64 d.n,.string d.s,.slice d.la d.ln d.lc]] w fun e w'=>e= .returned (.int .i64 (cmpV x y))∧Below w.heap.size w w'
 |0,x,hx,_,_,_,_,_,_,_,_=>by have:=x.parts_pos;omega
 |n+1,x,hx,y,⟨ck,cn,cs,la,ln,lc⟩,⟨dk,dn,ds,ma,mn,mc⟩,F,F',w,C,D=>by
  by_cases hk:ck=dk
  ·by_cases k1:ck=1
   ·exact cmp_int x y ck cn cs la ln lc dk dn ds ma mn mc F F' w C D _ rfl hk k1
   ·by_cases k2:ck=2
    ·exact cmp_text x y ck cn cs la ln lc dk dn ds ma mn mc F F' w C D _ rfl hk k2
    ·by_cases k3:ck=3
     ·obtain⟨h4,h5,h6⟩:=C.l.elems
      obtain⟨g4,g5,g6⟩:=D.l.elems
      have hA:∃g off,(la=some ⟨g,off,none⟩∨x.list=[])∧(∀(i:Nat) (z:Val),x.list[i]? =some z→F g∧g<w.heap.size∧∃c,CF F w c z∧
        w.cell? ⟨g,off+i*4,none⟩=some (.int .i64 c.kind)∧w.cell? ⟨g,off+i*4+1,none⟩=some (.int .i64 c.n)∧w.cell? ⟨g,off+i*4+2,none⟩=some (.string c.s)∧w.cell? ⟨g,off+i*4+3,none⟩=some (.slice c.la c.ln c.lc)):=by
       rcases h6 with h6|⟨g,off,hla,hFg,hg,h6⟩
       ·exact⟨0,0,.inr h6,fun i y hy=>by rw[h6]at hy;simp at hy⟩
       ·exact⟨g,off,.inl hla,fun i y hy=>⟨hFg,hg,h6 i y hy⟩⟩
      have hB:∃g off,(ma=some ⟨g,off,none⟩∨y.list=[])∧(∀(i:Nat) (z:Val),y.list[i]? =some z→F' g∧g<w.heap.size∧∃c,CF F' w c z∧
        w.cell? ⟨g,off+i*4,none⟩=some (.int .i64 c.kind)∧w.cell? ⟨g,off+i*4+1,none⟩=some (.int .i64 c.n)∧w.cell? ⟨g,off+i*4+2,none⟩=some (.string c.s)∧w.cell? ⟨g,off+i*4+3,none⟩=some (.slice c.la c.ln c.lc)):=by
       rcases g6 with h6|⟨g,off,hla,hFg,hg,h6⟩
       ·exact⟨0,0,.inr h6,fun i y hy=>by rw[h6]at hy;simp at hy⟩
       ·exact⟨g,off,.inl hla,fun i y hy=>⟨hFg,hg,h6 i y hy⟩⟩
      obtain⟨g,off,a1,a2⟩:=hA
      obtain⟨g',off',b1,b2⟩:=hB
      exact cmp_list n (fun y hy=>compare_any n y hy) x y ck cn cs la ln lc dk dn ds ma mn mc F F' w C D _ rfl hk k3 hx g off g' off' ⟨h4,h5,a2⟩ a1 ⟨g4,g5,b2⟩ b1
     ·exact cmp_other x y ck cn cs la ln lc dk dn ds ma mn mc F F' w C D _ rfl hk (beq_eq_false_iff_ne.2 k1) (beq_eq_false_iff_ne.2 k2) (beq_eq_false_iff_ne.2 k3)
  ·exact cmp_kind x y ck cn cs la ln lc dk dn ds ma mn mc F F' w C D _ rfl (by simpa using hk)
theorem same_any (x y:Val)(c d:VC)(F F':Nat→Prop)(w:World)(C:CF F w c x)(D:CF F' w d y)(b:Bool)(hb:(cmpV x y==0)=b):
  Calls Tryz.prog 15 #[.agg #[.int .i64 c.kind,.int .i64 c.n,.string c.s,.slice c.la c.ln c.lc],.agg #[.int .i64 d.kind,.int .i64 d.n,.string d.s,.slice d.la d.ln d.lc]] w fun e w'=>e= .returned (.bool b)∧Below w.heap.size w w':=by
 have K0:Keeps (fun _=>False) w ((w.alloc (.cells #[.int .i64 c.kind,.int .i64 c.n,.string c.s,.slice c.la c.ln c.lc] 39)).alloc (.cells #[.int .i64 d.kind,.int .i64 d.n,.string d.s,.slice d.la d.ln d.lc] 39)):=((Keeps.refl _ _).alloc _).alloc _
 have CC:=zhd (compare_any x.parts x (Nat.le_refl _) y c d F F' _ (C.keep K0 (fun _ _ f=>f)) (D.keep K0 (fun _ _ f=>f)))
 have HB:=zhd (K0.below (B:=w.heap.size) (Nat.le_refl _) (fun _ _ f=>f))
 clear C D K0
 generalize cmpV x y=v at*
 go_enter Tryz.func15,Tryz.ntmps15
 go_wp2_with fail
 refine CC.out.mono ?_
 rintro e w1 ⟨rfl,hB⟩
 have H1:=zhd (HB.out.trans (hB.mono (by simp;omega)))
 clear hB
 go_wp2_with fail
 go_ret
 exact⟨rfl,H1.out⟩
end Go.Proofs.YtakljipkaoahnaaGreatDoor
