/- Parts of the proof: what the functions and the plain laws give that later parts lean on. Conditions: none beyond those that each theorem names. -/
import Derived.Test.YtpagmlndgblhhaaGreatDoorA2
set_option maxRecDepth 100000
set_option maxHeartbeats 8000000
namespace Go.Va
open Go.Own Go.RowKit
def yah:Val->List UInt8
 | .mk k n s l=>UInt8.ofNat (k%256).toNat::(bif k==1 then ych (zigL n)else bif k==2 then Go.Va.textB s.data.toList else bif k==3 then ych l.length++bytesL l else[])
where bytesL:List Val->List UInt8
 |[]=>[]
 |x::r=>yah x++bytesL r
theorem yaY (x:Val):yah x=UInt8.ofNat (x.kind%256).toNat::(bif x.kind==1 then ych (zigL x.num)else bif x.kind==2 then Go.Va.textB x.txt.data.toList else bif x.kind==3 then ych x.list.length++yah.bytesL x.list else[]):=by
 cases x;rw[yah];rfl
theorem ybq (x:Val)(r:List Val):yah.bytesL (x::r)=yah x++yah.bytesL r:=by rw[yah.bytesL]
theorem ydu:yah.bytesL []=[]:=by rw[yah.bytesL]
theorem yfk {x:Val}:∀{l:List Val},x∈l->(yah x).length<=(yah.bytesL l).length
 |[],h=>by cases h
 |y::r,h=>by
  rw[ybq,znk];rcases List.mem_cons.1 h with rfl|h
  .omega
  .have:=yfk h;omega
def Val.wf:Val->Prop
 | .mk k n s l=>(-9223372036854775808<=k/\k<=9223372036854775807)/\(-9223372036854775808<=n/\n<=9223372036854775807)/\s.size<=140737488355328/\wfL l
where wfL:List Val->Prop
 |[]=>True
 |x::r=>x.wf/\wfL r
theorem Val.wf_eq (x:Val):x.wf↔(-9223372036854775808<=x.kind/\x.kind<=9223372036854775807)/\(-9223372036854775808<=x.num/\x.num<=9223372036854775807)/\x.txt.size<=140737488355328/\Val.wf.wfL x.list:=by
 cases x;rw[Val.wf];rfl
theorem Val.wfL_mem {x:Val}:∀{l:List Val},Val.wf.wfL l->x∈l->x.wf
 |[],_,h=>by cases h
 |y::r,hw,h=>by
  rw[Val.wf.wfL]at hw;rcases List.mem_cons.1 h with rfl|h
  .exact hw.1
  .exact Val.wfL_mem hw.2 h
theorem Val.wfL_iff:∀{l:List Val},Val.wf.wfL l↔∀x∈l,x.wf
 |[]=>by rw[Val.wf.wfL];simp
 |y::r=>by rw[Val.wf.wfL,Val.wfL_iff];simp
end Go.Va
namespace Go.Proofs.YtpagmlndgblhhaaGreatDoor
open Go.RowKit Go.Own Go.Own.MapTy Go.Va Go.Sort
open Go.Own.Cells (sz enc)
theorem yaO {W:World}{b j:Nat}(hb:b<W)(o:Obj):ycf (W.alloc o) b j↔ycf W b j:=by
 unfold ycf;rw[zne _ _ _ hb]
theorem ygQ (x:Val)
  (b:Nat)(l:List UInt8)(ck cn:Int)(cs:ByteArray)(la:Option Addr)(ln lc:Nat)(F:Nat->Prop)(w:World)(H:WB w b l)(C:CF F w ⟨ck,cn,cs,la,ln,lc⟩ x)(hF:∀j,F j->j≠b/\¬ycf w b j)(hw:x.wf)(hl:l.length+(yah x).length+12<=1099511627776)(r:List UInt8)(hr:yah x=r)
  (k1:(ck==1)=false)(k2:(ck==2)=false)(k3:(ck==3)=false):
  Calls Tryz.prog 60 #[.pointer (some ⟨b,0,none⟩),.agg #[ck,cn,cs,.slice la ln lc]] w (WPB w b (l++r))
  :=by
 have W:=H.lt;have I:ck=x.kind:=C.kind;have L:cn=x.num:=C.n;have K:cs=x.txt:=C.s;have E:=(Val.wf_eq x).1 hw;have B:=hr;rw[yaY]at hr;rw[B]at hl;have c:=zh4 C E B hF;clear C E B hw hF;obtain⟨y,J⟩:∃y,y=UInt8.ofNat (x.kind%256).toNat:=⟨_,rfl⟩;rw[<-J]at hr;have D:((ck%256):Int)=(y.toNat:Int):=by
  have h:(x.kind%256).toNat<256:=by omega
  rw[J,UInt8.toNat_ofNat_of_lt' (by exact h)];omega
 have Y:=zhd D;clear J D;rw[<-I,k1,k2,k3]at hr;simp only[znl]at hr;have Z:=zhd hr;clear hr I L K;have O:=H.alloc (.cells #[ck,cn,cs,.slice la ln lc] 38);have N:=O.1.alloc (.cells #[.int .u8 (ck%256)] 5);have G:∀j,ycf ((w.alloc (.cells #[ck,cn,cs,.slice la ln lc] 38)).alloc (.cells #[.int .u8 (ck%256)] 5)) b j->j<w.heap.size:=fun j hj=>(H.row ((yaO W _).1 ((yaO (by simp;omega) _).1 hj))).2;have Q:=zhd (show Calls Tryz.prog 105 #[.pointer (some ⟨b,0,none⟩),.slice (some ⟨w.heap.size+1,0,none⟩) 1 1] _ (WPB _ b (l++[y]))from ydX b l [y] (w.heap.size+1) 1 _ N.1 (fun j u hu=>by
  rw[zch yan];cases j with
  |zero=>rw[Y.o];simpa[ydM]using hu
  |succ j=>simp at hu) (by simp;omega))
 have M:=zh3 O.2 N.2 G;clear O N G;have a:=zhd H;clear H;go_in;go_wp2_with fail;refine Q.o.mono ?_;rintro e P ⟨rfl,A⟩;have q:∀o,P.cell? ⟨w,o,none⟩=(#[.int .i64 ck,.int .i64 cn,.string cs,.slice la ln lc]:Array Value)[o]? :=fun o=>by
  rw[A.o.2.cell (by simp;omega) (by omega) (fun h=>by have:=M.o.2.2 _ h;omega),zch yaC]
 have V:=q 0;have U:=q 1;have T:=q 2;have S:=q 3;simp only[zmc,zma,zmb]at V U T S;have X:=zhd ((M.o.1.trans M.o.2.1).trans A.o.2);have R:w.heap.size+1<P.heap.size:=by have:=A.o.2.1.size;simp at this;omega
 clear q Q;go_wp2_with fail
 go_end0
 exact⟨rfl,zhd ⟨by rw[<-Z.o];exact A.o.1,X.o⟩⟩
theorem yjR (x:Val)
  (b:Nat)(l:List UInt8)(ck cn:Int)(cs:ByteArray)(la:Option Addr)(ln lc:Nat)(F:Nat->Prop)(w:World)(H:WB w b l)(C:CF F w ⟨ck,cn,cs,la,ln,lc⟩ x)(hF:∀j,F j->j≠b/\¬ycf w b j)(hw:x.wf)(hl:l.length+(yah x).length+12<=1099511627776)(r:List UInt8)(hr:yah x=r)
  (k1:ck=1):
  Calls Tryz.prog 60 #[.pointer (some ⟨b,0,none⟩),.agg #[ck,cn,cs,.slice la ln lc]] w (WPB w b (l++r))
  :=by
 subst k1;have a:=H.lt;have J:1=x.kind:=C.kind;have I:cn=x.num:=C.n;have N:cs=x.txt:=C.s;have E:=(Val.wf_eq x).1 hw;have B:=hr;rw[yaY]at hr;rw[B]at hl;have f:=zh4 C E B hF;clear C E B hw hF;obtain⟨y,M⟩:∃y,y=UInt8.ofNat (x.kind%256).toNat:=⟨_,rfl⟩;rw[<-M]at hr;have D:(1:Int)=(y.toNat:Int):=by
  have h:(x.kind%256).toNat<256:=by omega
  rw[M,UInt8.toNat_ofNat_of_lt' (by exact h)];omega
 have d:=zhd D;clear M D;rw[<-J]at hr;simp only[beq_self_eq_true,znm]at hr;have O:=zhd hr;have K:=f.o.2.1.2.1;rw[<-I]at K hr;have O:=zhd hr;clear hr J I N;have R:=H.alloc (.cells #[.int .i64 1,cn,cs,.slice la ln lc] 38);have Q:=R.1.alloc (.cells #[.int .u8 1] 5);have G:∀j,ycf ((w.alloc (.cells #[.int .i64 1,cn,cs,.slice la ln lc] 38)).alloc (.cells #[.int .u8 1] 5)) b j->j<w.heap.size:=fun j hj=>(H.row ((yaO a _).1 ((yaO (by simp;omega) _).1 hj))).2;have U:=zhd (show Calls Tryz.prog 105 #[.pointer (some ⟨b,0,none⟩),.slice (some ⟨w.heap.size+1,0,none⟩) 1 1] _ (WPB _ b (l++[y]))from ydX b l [y] (w.heap.size+1) 1 _ Q.1 (fun j u hu=>by
  rw[zch yan];cases j with
  |zero=>rw[d.o];simpa[ydM]using hu
  |succ j=>simp at hu) (by simp;omega))
 have P:=zh3 R.2 Q.2 G;clear R Q G;have m:=zhd H;clear H;go_in;go_wp2_with fail;refine U.o.mono ?_;rintro e L ⟨rfl,A⟩;have q:∀o,L.cell? ⟨w,o,none⟩=(#[.int .i64 1,.int .i64 cn,.string cs,.slice la ln lc]:Array Value)[o]? :=fun o=>by
  rw[A.o.2.cell (by simp;omega) (by omega) (fun h=>by have:=P.o.2.2 _ h;omega),zch yaC]
 have Z:=q 0;have Y:=q 1;have X:=q 2;have W:=q 3;simp only[zmc,zma,zmb]at Z Y X W;have c:=zhd ((P.o.1.trans P.o.2.1).trans A.o.2);have V:w.heap.size+1<L.heap.size:=by have:=A.o.2.1.size;simp at this;omega
 clear q U;have k:=A.o.1.lt;have S:=A.o.1.alloc (.cells #[cn] 2);have g:=zhd (ynq b (l++[y]) cn L.heap.size 1 _ S.1 (by rw[zch (znb _ _)];rfl) K.1 K.2 (by have h:=congrArg List.length O.o;simp at h|-;omega));clear K;go_wp2_with fail;refine g.o.mono ?_;rintro e i ⟨rfl,T⟩;go_wp2_with fail
 go_end0
 refine⟨rfl,zhd ⟨?_,(c.o.trans S.2).trans T.o.2⟩⟩;rw[<-O.o];have:=T.o.1;rw[List.append_assoc]at this;exact this
theorem yiJ (x:Val)
  (b:Nat)(l:List UInt8)(ck cn:Int)(cs:ByteArray)(la:Option Addr)(ln lc:Nat)(F:Nat->Prop)(w:World)(H:WB w b l)(C:CF F w ⟨ck,cn,cs,la,ln,lc⟩ x)(hF:∀j,F j->j≠b/\¬ycf w b j)(hw:x.wf)(hl:l.length+(yah x).length+12<=1099511627776)(r:List UInt8)(hr:yah x=r)
  (k1:ck=2):
  Calls Tryz.prog 60 #[.pointer (some ⟨b,0,none⟩),.agg #[ck,cn,cs,.slice la ln lc]] w (WPB w b (l++r))
  :=by
 subst k1;have Z:=H.lt;have J:2=x.kind:=C.kind;have L:cn=x.num:=C.n;have I:cs=x.txt:=C.s;have E:=(Val.wf_eq x).1 hw;have B:=hr;rw[yaY]at hr;rw[B]at hl;have k:=zh4 C E B hF;clear C E B hw hF;obtain⟨y,K⟩:∃y,y=UInt8.ofNat (x.kind%256).toNat:=⟨_,rfl⟩;rw[<-K]at hr;have D:(2:Int)=(y.toNat:Int):=by
  have h:(x.kind%256).toNat<256:=by omega
  rw[K,UInt8.toNat_ofNat_of_lt' (by exact h)];omega
 have c:=zhd D;clear K D;rw[<-J,<-I]at hr;have Q:((2:Int)==1)=false:=rfl;rw[Q]at hr;simp only[beq_self_eq_true,znm,znl]at hr;have d:=zhd hr;have Y:l.length+1+cs.size+12<=1099511627776:=by
  have h:=congrArg List.length hr;simp[Go.Va.textB]at h;omega
 clear hr J L I Q;have O:=H.alloc (.cells #[.int .i64 2,cn,cs,.slice la ln lc] 38);have N:=O.1.alloc (.cells #[.int .u8 2] 5);have G:∀j,ycf ((w.alloc (.cells #[.int .i64 2,cn,cs,.slice la ln lc] 38)).alloc (.cells #[.int .u8 2] 5)) b j->j<w.heap.size:=fun j hj=>(H.row ((yaO Z _).1 ((yaO (by simp;omega) _).1 hj))).2;have S:=zhd (show Calls Tryz.prog 105 #[.pointer (some ⟨b,0,none⟩),.slice (some ⟨w.heap.size+1,0,none⟩) 1 1] _ (WPB _ b (l++[y]))from ydX b l [y] (w.heap.size+1) 1 _ N.1 (fun j u hu=>by
  rw[zch yan];cases j with
  |zero=>rw[c.o];simpa[ydM]using hu
  |succ j=>simp at hu) (by simp;omega))
 have M:=zh3 O.2 N.2 G;clear O N G;have i:=zhd H;clear H;go_in;go_wp2_with fail;refine S.o.mono ?_;rintro e P ⟨rfl,A⟩;have q:∀o,P.cell? ⟨w,o,none⟩=(#[.int .i64 2,.int .i64 cn,.string cs,.slice la ln lc]:Array Value)[o]? :=fun o=>by
  rw[A.o.2.cell (by simp;omega) (by omega) (fun h=>by have:=M.o.2.2 _ h;omega),zch yaC]
 have X:=q 0;have W:=q 1;have V:=q 2;have U:=q 3;simp only[zmc,zma,zmb]at X W V U;have a:=zhd ((M.o.1.trans M.o.2.1).trans A.o.2);have T:w.heap.size+1<P.heap.size:=by have:=A.o.2.1.size;simp at this;omega
 clear q S;have f:=zhd (yjQ b (l++[y]) cs _ A.o.1 (by simp;omega));go_wp2_with fail;refine f.o.mono ?_;rintro e g ⟨rfl,R⟩;go_wp2_with fail
 go_end0
 refine⟨rfl,zhd ⟨?_,a.o.trans R.o.2⟩⟩;rw[<-d.o];have:=R.o.1;rw[List.append_assoc]at this;exact this
def yqn (w:World)(b:Nat)(x:Val)(L:List UInt8)(gk:Nat)(v39:Value)(wr:World):Prop:=
 ∃(i:Nat) (l1:List UInt8),v39= .int .i64 i/\i<=x.list.length/\gk=x.list.length - i/\WB wr b l1/\l1++yah.bytesL (x.list.drop i)=L/\WK b w wr
theorem yeZ (n:Nat)(IH:∀(x:Val),x.parts<=n->∀(b:Nat) (l:List UInt8) (c:VC) (F:Nat->Prop) (w:World),WB w b l->CF F w c x->(∀j,F j->j≠b/\¬ycf w b j)->x.wf->l.length+(yah x).length+12<=1099511627776->
   Calls Tryz.prog 60 #[.pointer (some ⟨b,0,none⟩),.agg #[c.kind,c.n,c.s,.slice c.la c.ln c.lc]] w (WPB w b (l++yah x)))
  (x:Val)
  (b:Nat)(l:List UInt8)(ck cn:Int)(cs:ByteArray)(la:Option Addr)(ln lc:Nat)(F:Nat->Prop)(w:World)(H:WB w b l)(C:CF F w ⟨ck,cn,cs,la,ln,lc⟩ x)(hF:∀j,F j->j≠b/\¬ycf w b j)(hw:x.wf)(hl:l.length+(yah x).length+12<=1099511627776)(r:List UInt8)(hr:yah x=r)
  (k1:ck=3)(hx:x.parts<=n+1)(g off:Nat)
  (hel:ln=x.list.length/\ln<=maxLen/\(∀(i:Nat) (y:Val),x.list[i]? =some y->F g/\g<w/\∃c,CF F w c y/\
    w.cell? ⟨g,off+i*4,none⟩=some (.int .i64 c.kind)/\w.cell? ⟨g,off+i*4+1,none⟩=some (.int .i64 c.n)/\w.cell? ⟨g,off+i*4+2,none⟩=some (.string c.s)/\w.cell? ⟨g,off+i*4+3,none⟩=some (.slice c.la c.ln c.lc)))(hla:la=some ⟨g,off,none⟩\/x.list=[]):
  Calls Tryz.prog 60 #[.pointer (some ⟨b,0,none⟩),.agg #[ck,cn,cs,.slice la ln lc]] w (WPB w b (l++r))
  :=by
 subst k1;have b0:=H.lt;have m:3=x.kind:=C.kind;have Ae:cn=x.num:=C.n;have Ad:cs=x.txt:=C.s;have X:=(Val.wf_eq x).1 hw;have N:=hr;rw[yaY]at hr;rw[N]at hl;have Q:=zh4 C X N hF;clear C X N hw hF;obtain⟨y,hy⟩:∃y,y=UInt8.ofNat (x.kind%256).toNat:=⟨_,rfl⟩;rw[<-hy]at hr;have W:(3:Int)=(y.toNat:Int):=by
  have h:(x.kind%256).toNat<256:=by omega
  rw[hy,UInt8.toNat_ofNat_of_lt' (by exact h)];omega
 have HY:=zhd W;clear hy W;rw[<-m]at hr;have e1:((3:Int)==1)=false:=rfl;have e2:((3:Int)==2)=false:=rfl;rw[e1,e2]at hr;simp only[beq_self_eq_true,znm,znl]at hr;obtain⟨K,Ac,hel⟩:=hel;rw[<-K]at hr;have HR:=zhd hr;have HE:=zhd hel;have HL:=zhd K;have Ag:=zhd hla;unfold maxLen at Ac;have Ah:=zhd IH;clear hr m Ae Ad e1 e2 hel K IH hla;have H1:=H.alloc (.cells #[.int .i64 3,cn,cs,.slice la ln lc] 38);have H2:=H1.1.alloc (.cells #[.int .u8 3] 5);have Z:∀j,ycf ((w.alloc (.cells #[.int .i64 3,cn,cs,.slice la ln lc] 38)).alloc (.cells #[.int .u8 3] 5)) b j->j<w.heap.size:=fun j hj=>(H.row ((yaO b0 _).1 ((yaO (by simp;omega) _).1 hj))).2;have CB:=zhd (show Calls Tryz.prog 105 #[.pointer (some ⟨b,0,none⟩),.slice (some ⟨w.heap.size+1,0,none⟩) 1 1] _ (WPB _ b (l++[y]))from ydX b l [y] (w.heap.size+1) 1 _ H2.1 (fun j u hu=>by
  rw[zch yan];cases j with
  |zero=>rw[HY.o];simpa[ydM]using hu
  |succ j=>simp at hu) (by simp;omega))
 have HK:=zh3 H1.2 H2.2 Z;clear H1 H2 Z;have HH:=zhd H;clear H;go_in;go_wp2_with fail;refine CB.o.mono ?_;rintro e E ⟨rfl,B⟩;have q:∀o,E.cell? ⟨w,o,none⟩=(#[.int .i64 3,.int .i64 cn,.string cs,.slice la ln lc]:Array Value)[o]? :=fun o=>by
  rw[B.o.2.cell (by simp;omega) (by omega) (fun h=>by have:=HK.o.2.2 _ h;omega),zch yaC]
 have V:=q 0;have U:=q 1;have T:=q 2;have R:=q 3;simp only[zmc,zma,zmb]at V U T R;have K2:=zhd ((HK.o.1.trans HK.o.2.1).trans B.o.2);have Ak:w.heap.size+1<E.heap.size:=by have:=B.o.2.1.size;simp at this;omega
 clear q CB;have b2:=B.o.1.lt;have HA:=B.o.1.alloc (.cells #[.int .u64 ln] 188);have CN:=zhd (yho b (l++[y]) ln E.heap.size 1 _ HA.1 (by rw[zch (znb _ _)];rfl) (by omega) (by have h:=congrArg List.length HR.o;simp at h|-;omega));go_wp2_with fail;refine CN.o.mono ?_;rintro e w3 ⟨rfl,H3⟩;have Y:∀j,ycf (E.alloc (.cells #[.int .u64 ln] 188)) b j->j<w.heap.size\/w.heap.size+2<=j:=fun j hj=>by
  rcases B.o.2.2 j ((yaO b2 _).1 hj)with h|h
  .exact .inl (HK.o.2.2 j h)
  .simp at h;exact .inr h
 have q:∀o,w3.cell? ⟨w,o,none⟩=E.cell? ⟨w,o,none⟩:=fun o=>by
  rw[H3.o.2.cell (by simp;omega) (by omega) (fun h=>by have:=Y _ h;omega)];exact znt (w:=E) (zne _ _ _ (show w<E.heap.size by omega))
 rw[<-q 0]at V;rw[<-q 1]at U;rw[<-q 2]at T;rw[<-q 3]at R;have K3:=zhd ((K2.o.trans HA.2).trans H3.o.2);have p:=H3.o.1;clear q CN Y H3 HA HK K2;go_wp2_with fail;go_loopg [39] (x.list.length) (fun gk v39 wr=>yqn w b x (l++r) gk v39 wr)
 case atStart=>exact⟨0,_,rfl,znq _,rfl,p,(by rw[<-HR.o];simp),K3.o⟩
 case round=>
  clear V U T R p K3;obtain⟨i,l1,rfl,hi,L,t,M,D⟩:=hrel;by_cases hin:i<ln
  .obtain⟨z,J⟩:=yac (l:=x.list) (k:=i) (by have:=HL.o;omega)
   obtain⟨Af,hg,A,hC,V,U,T,R⟩:=HE.o i z J;have a:=Q.o.2.2.2 g Af;have Ai:(i:Int)<ln:=by omega
   have hla:la=some ⟨g,off,none⟩:=Ag.o.resolve_right (fun e=>by rw[e]at J;simp at J);have Aj:=D.1.size;have b1:=t.lt;rw[<-D.cell hg a.1 a.2]at V U T R;have d:x.list.drop i=z::x.list.drop (i+1):=by
    rw[znr (zge J).1,(zge J).2]
   rw[d,ybq]at M;have I:=zmg J;have Ab:=(hC.mono (G:=fun j=>F j/\j<w) (fun j h l=>⟨h,l⟩)).keep D.1 (fun j h e=>e.elim (Q.o.2.2.2 j h.1).1 (Q.o.2.2.2 j h.1).2);have O:=t.alloc (.cells #[A.kind,A.n,A.s,.slice A.la A.ln A.lc] 38);have Aa:=Ab.keep (S:=fun _=>False) ((Keeps.refl _ _).alloc (.cells #[A.kind,A.n,A.s,.slice A.la A.ln A.lc] 38)) (fun _ _ f=>f);have CA:=zhd (Ah.o z (by have:=Val.parts_lt (v:=x) I;omega) b l1 A _ _ O.1 Aa (fun j h=>⟨(Q.o.2.2.2 j h.1).1,fun hj=>by
    rcases D.2 j ((yaO b1 _).1 hj)with h1|h1
    .exact(Q.o.2.2.2 j h.1).2 h1
    .have:=h.2;omega⟩) (Val.wfL_mem Q.o.2.1.2.2.2 I) (by have h:=congrArg List.length M;simp at h;omega))
   have P:=zh3 M (D.trans O.2) L;subst hla;clear t M D L hC Ab O Aa d J I;go_wp2_with fail;refine CA.o.mono ?_;rintro e w5 ⟨rfl,H5⟩;go_wp2_with fail;go_roundg (x.list.length - (i+1))
   case measure=>have:=P.o.2.2;have:=HL.o;omega
   case rel=>exact⟨i+1,_,by simp,(by have:=HL.o;omega),rfl,H5.o.1,(by rw[List.append_assoc];exact P.o.1),P.o.2.1.trans H5.o.2⟩
  .obtain rfl:i=ln:=by have:=HL.o;omega
   rw[zns (by have:=HL.o;omega),ydu,List.append_nil]at M;have P:=zh3 M t D;clear t M D L;go_wp2_with fail
   go_end0
   exact⟨rfl,zhd ⟨by rw[<-P.o.1];exact P.o.2.1,P.o.2.2⟩⟩
theorem ydZ:∀(n:Nat) (x:Val),x.parts<=n->∀(b:Nat) (l:List UInt8) (c:VC) (F:Nat->Prop) (w:World),WB w b l->CF F w c x->(∀j,F j->j≠b/\¬ycf w b j)->x.wf->l.length+(yah x).length+12<=1099511627776->
   Calls Tryz.prog 60 #[.pointer (some ⟨b,0,none⟩),.agg #[c.kind,c.n,c.s,.slice c.la c.ln c.lc]] w (WPB w b (l++yah x))
 |0,x,hx,_,_,_,_,_,_,_,_,_,_=>by have:=x.parts_pos;omega
 |n+1,x,hx,b,l,⟨ck,cn,cs,la,ln,lc⟩,F,w,H,C,hF,hw,hl=>by
  by_cases k1:ck=1
  .exact yjR x b l ck cn cs la ln lc F w H C hF hw hl _ rfl k1
  .by_cases k2:ck=2
   .exact yiJ x b l ck cn cs la ln lc F w H C hF hw hl _ rfl k2
   .by_cases k3:ck=3
    .obtain⟨I,G,A⟩:=C.l.elems
     rcases A with A|⟨g,B,D,E,J,A⟩
     .exact yeZ n (fun y hy=>ydZ n y hy) x b l ck cn cs la ln lc F w H C hF hw hl _ rfl k3 hx 0 0 ⟨I,G,fun i y hy=>by rw[A]at hy;simp at hy⟩ (.inr A)
     .exact yeZ n (fun y hy=>ydZ n y hy) x b l ck cn cs la ln lc F w H C hF hw hl _ rfl k3 hx g B ⟨I,G,fun i y hy=>⟨E,J,A i y hy⟩⟩ (.inl D)
    .exact ygQ x b l ck cn cs la ln lc F w H C hF hw hl _ rfl (beq_eq_false_iff_ne.2 k1) (beq_eq_false_iff_ne.2 k2) (beq_eq_false_iff_ne.2 k3)
end Go.Proofs.YtpagmlndgblhhaaGreatDoor
namespace Go.Va
open Go.Own Go.RowKit
def cmpV:Val->Val->Int
 | .mk k n s l,y=>
   bif k !=y.kind then(bif decide (k<y.kind)then -1 else 1)else
   bif k==1 then(bif n !=y.num then(bif decide (n<y.num)then -1 else 1)else 0)else
   bif k==2 then Lib.compareBytes s.data.toList y.txt.data.toList else
   bif k==3 then cmpLs l y.list else 0
where cmpLs:List Val->List Val->Int
 |[],ys=>bif decide (0<ys.length)then -1 else 0
 |_::_,[]=>1
 |x::r,y::s=>bif cmpV x y !=0 then cmpV x y else cmpLs r s
theorem ydr (x y:Val):cmpV x y=
  bif x.kind !=y.kind then(bif decide (x.kind<y.kind)then -1 else 1)else
  bif x.kind==1 then(bif x.num !=y.num then(bif decide (x.num<y.num)then -1 else 1)else 0)else
  bif x.kind==2 then Lib.compareBytes x.txt.data.toList y.txt.data.toList else
  bif x.kind==3 then cmpV.cmpLs x.list y.list else 0:=by
 cases x;rw[cmpV];rfl
theorem yfL (ys:List Val):cmpV.cmpLs [] ys=bif decide (0<ys.length)then -1 else 0:=by rw[cmpV.cmpLs]
theorem yiE (x:Val)(r:List Val):cmpV.cmpLs (x::r) []=1:=by rw[cmpV.cmpLs]
theorem ygv (x y:Val)(r s:List Val):cmpV.cmpLs (x::r) (y::s)=bif cmpV x y !=0 then cmpV x y else cmpV.cmpLs r s:=by rw[cmpV.cmpLs]
end Go.Va
namespace Go.Proofs.YtpagmlndgblhhaaGreatDoor
open Go.RowKit Go.Own Go.Own.MapTy Go.Va Go.Sort
open Go.Own.Cells (sz enc)
theorem ymv (x y:Val)
  (ck cn:Int)(cs:ByteArray)(la:Option Addr)(ln lc:Nat)(dk dn:Int)(ds:ByteArray)(ma:Option Addr)(mn mc:Nat)(F F':Nat->Prop)(w:World)(C:CF F w ⟨ck,cn,cs,la,ln,lc⟩ x)(D:CF F' w ⟨dk,dn,ds,ma,mn,mc⟩ y)(r:Int)(hr:cmpV x y=r)
  (hk:(ck !=dk)=true):
  Calls Tryz.prog 71 #[.agg #[ck,cn,cs,.slice la ln lc],.agg #[dk,dn,ds,.slice ma mn mc]] w fun e w'=>e= .returned (.int .i64 r)/\Below w w w'
  :=by
 rw[ydr]at hr;have E:ck=x.kind:=C.kind;have B:cn=x.num:=C.n;have A:cs=x.txt:=C.s;have I:dk=y.kind:=D.kind;have H:dn=y.num:=D.n;have G:ds=y.txt:=D.s;rw[<-E,<-B,<-A,<-I,<-H,<-G]at hr;clear E B A I H G;have O:=zh2 C D;clear C D;rw[hk]at hr;simp only[znm]at hr;have J:(ck==dk)=false:=by simpa using hk
 have K:=zhd hr;clear hr;have M:=zhd (fun W=>yid (decide (ck<dk)) W);have L:=zhd ((((znv w.heap.size w).alloc (znc _) (.cells #[ck,cn,cs,.slice la ln lc] 38)).alloc (by simp) (.cells #[dk,dn,ds,.slice ma mn mc] 38)));generalize hd:decide (ck<dk)=b at*;go_in;go_wp2_with fail;refine(M.o _).mono ?_;rintro e N ⟨rfl,rfl⟩;go_wp2;go_ret;exact⟨by rw[<-K.o];rfl,L.o⟩
theorem ynG (x y:Val)
  (ck cn:Int)(cs:ByteArray)(la:Option Addr)(ln lc:Nat)(dk dn:Int)(ds:ByteArray)(ma:Option Addr)(mn mc:Nat)(F F':Nat->Prop)(w:World)(C:CF F w ⟨ck,cn,cs,la,ln,lc⟩ x)(D:CF F' w ⟨dk,dn,ds,ma,mn,mc⟩ y)(r:Int)(hr:cmpV x y=r)
  (hk:ck=dk)(h1:ck=1):
  Calls Tryz.prog 71 #[.agg #[ck,cn,cs,.slice la ln lc],.agg #[dk,dn,ds,.slice ma mn mc]] w fun e w'=>e= .returned (.int .i64 r)/\Below w w w'
  :=by
 rw[ydr]at hr;have h1:ck=x.kind:=C.kind;have G:cn=x.num:=C.n;have E:cs=x.txt:=C.s;have J:dk=y.kind:=D.kind;have I:dn=y.num:=D.n;have H:ds=y.txt:=D.s;rw[<-h1,<-G,<-E,<-J,<-I,<-H]at hr;clear h1 G E J I H;have O:=zh2 C D;clear C D;have A:(ck !=dk)=false:=by rw[hk];simp
 rw[A]at hr;simp only[znl]at hr;subst hk;have K:=zhd ((((znv w.heap.size w).alloc (znc _) (.cells #[ck,cn,cs,.slice la ln lc] 38)).alloc (by simp) (.cells #[ck,dn,ds,.slice ma mn mc] 38)));clear A;subst h1;simp only[beq_self_eq_true,znm]at hr;cases hn:(cn !=dn)with
 |true=>
  rw[hn]at hr;simp only[znm]at hr;have L:(cn==dn)=false:=by simpa using hn
  have B:=zhd hr;clear hr;have M:=zhd (fun W=>yid (decide (cn<dn)) W);generalize hd:decide (cn<dn)=b at*;go_in;go_wp2_with fail;refine(M.o _).mono ?_;rintro e N ⟨rfl,rfl⟩;go_wp2;go_ret;exact⟨by rw[<-B.o];rfl,K.o⟩
 |false=>
  rw[hn]at hr;simp only[znl]at hr;obtain rfl:cn=dn:=by simpa using hn
  have B:=zhd hr;clear hr hn;go_in;go_wp2;go_ret;exact⟨by rw[<-B.o];rfl,K.o⟩
theorem ymt (x y:Val)
  (ck cn:Int)(cs:ByteArray)(la:Option Addr)(ln lc:Nat)(dk dn:Int)(ds:ByteArray)(ma:Option Addr)(mn mc:Nat)(F F':Nat->Prop)(w:World)(C:CF F w ⟨ck,cn,cs,la,ln,lc⟩ x)(D:CF F' w ⟨dk,dn,ds,ma,mn,mc⟩ y)(r:Int)(hr:cmpV x y=r)
  (hk:ck=dk)(h1:ck=2):
  Calls Tryz.prog 71 #[.agg #[ck,cn,cs,.slice la ln lc],.agg #[dk,dn,ds,.slice ma mn mc]] w fun e w'=>e= .returned (.int .i64 r)/\Below w w w'
  :=by
 rw[ydr]at hr;have h1:ck=x.kind:=C.kind;have E:cn=x.num:=C.n;have B:cs=x.txt:=C.s;have I:dk=y.kind:=D.kind;have H:dn=y.num:=D.n;have G:ds=y.txt:=D.s;rw[<-h1,<-E,<-B,<-I,<-H,<-G]at hr;clear h1 E B I H G;have O:=zh2 C D;clear C D;have A:(ck !=dk)=false:=by rw[hk];simp
 rw[A]at hr;simp only[znl]at hr;subst hk;have L:=zhd ((((znv w.heap.size w).alloc (znc _) (.cells #[ck,cn,cs,.slice la ln lc] 38)).alloc (by simp) (.cells #[ck,dn,ds,.slice ma mn mc] 38)));clear A;subst h1;have J:((2:Int)==1)=false:=rfl;rw[J]at hr;simp only[beq_self_eq_true,znm,znl]at hr;have M:=zhd (fun W=>Any.strings_Compare Tryz.lays106 cs ds W);have K:=zhd hr;clear hr J;go_in;go_wp2_with fail;refine(M.o _).mono ?_;rintro e N ⟨rfl,rfl⟩;go_wp2;go_ret;exact⟨by rw[<-K.o];rfl,L.o⟩
theorem yk9 (x y:Val)
  (ck cn:Int)(cs:ByteArray)(la:Option Addr)(ln lc:Nat)(dk dn:Int)(ds:ByteArray)(ma:Option Addr)(mn mc:Nat)(F F':Nat->Prop)(w:World)(C:CF F w ⟨ck,cn,cs,la,ln,lc⟩ x)(D:CF F' w ⟨dk,dn,ds,ma,mn,mc⟩ y)(r:Int)(hr:cmpV x y=r)
  (hk:ck=dk)(h1:(ck==1)=false)(h2:(ck==2)=false)(h3:(ck==3)=false):
  Calls Tryz.prog 71 #[.agg #[ck,cn,cs,.slice la ln lc],.agg #[dk,dn,ds,.slice ma mn mc]] w fun e w'=>e= .returned (.int .i64 r)/\Below w w w'
  :=by
 rw[ydr]at hr;have h1:ck=x.kind:=C.kind;have h2:cn=x.num:=C.n;have h3:cs=x.txt:=C.s;have G:dk=y.kind:=D.kind;have E:dn=y.num:=D.n;have B:ds=y.txt:=D.s;rw[<-h1,<-h2,<-h3,<-G,<-E,<-B]at hr;clear h1 h2 h3 G E B;have J:=zh2 C D;clear C D;have A:(ck !=dk)=false:=by rw[hk];simp
 rw[A]at hr;simp only[znl]at hr;subst hk;have I:=zhd ((((znv w.heap.size w).alloc (znc _) (.cells #[ck,cn,cs,.slice la ln lc] 38)).alloc (by simp) (.cells #[ck,dn,ds,.slice ma mn mc] 38)));clear A;rw[h1,h2,h3]at hr;simp only[znl]at hr;have H:=zhd hr;clear hr;go_in;go_wp2;go_ret;exact⟨by rw[<-H.o];rfl,I.o⟩
def yqv (w2:World)(x y:Val)(r:Int)(gk:Nat)(v46:Value)(wr:World):Prop:=
 ∃i:Nat,v46= .int .i64 i/\i<=x.list.length/\i<=y.list.length/\gk=x.list.length - i/\cmpV.cmpLs (x.list.drop i) (y.list.drop i)=r/\Below w2 w2 wr
theorem ymu (n:Nat)(IH:∀(x:Val),x.parts<=n->∀(y:Val) (c d:VC) (F F':Nat->Prop) (w:World),CF F w c x->CF F' w d y->
   Calls Tryz.prog 71 #[.agg #[c.kind,c.n,c.s,.slice c.la c.ln c.lc],.agg #[d.kind,d.n,d.s,.slice d.la d.ln d.lc]] w fun e w'=>e= .returned (.int .i64 (cmpV x y))/\Below w w w')
  (x y:Val)
  (ck cn:Int)(cs:ByteArray)(la:Option Addr)(ln lc:Nat)(dk dn:Int)(ds:ByteArray)(ma:Option Addr)(mn mc:Nat)(F F':Nat->Prop)(w:World)(C:CF F w ⟨ck,cn,cs,la,ln,lc⟩ x)(D:CF F' w ⟨dk,dn,ds,ma,mn,mc⟩ y)(r:Int)(hr:cmpV x y=r)
  (hk:ck=dk)(h1:ck=3)(hx:x.parts<=n+1)(g off g' off':Nat)
  (hel:ln=x.list.length/\ln<=maxLen/\(∀(i:Nat) (z:Val),x.list[i]? =some z->F g/\g<w/\∃c,CF F w c z/\
    w.cell? ⟨g,off+i*4,none⟩=some (.int .i64 c.kind)/\w.cell? ⟨g,off+i*4+1,none⟩=some (.int .i64 c.n)/\w.cell? ⟨g,off+i*4+2,none⟩=some (.string c.s)/\w.cell? ⟨g,off+i*4+3,none⟩=some (.slice c.la c.ln c.lc)))(hla:la=some ⟨g,off,none⟩\/x.list=[])
  (hem:mn=y.list.length/\mn<=maxLen/\(∀(i:Nat) (z:Val),y.list[i]? =some z->F' g'/\g'<w.heap.size/\∃c,CF F' w c z/\
    w.cell? ⟨g',off'+i*4,none⟩=some (.int .i64 c.kind)/\w.cell? ⟨g',off'+i*4+1,none⟩=some (.int .i64 c.n)/\w.cell? ⟨g',off'+i*4+2,none⟩=some (.string c.s)/\w.cell? ⟨g',off'+i*4+3,none⟩=some (.slice c.la c.ln c.lc)))(hma:ma=some ⟨g',off',none⟩\/y.list=[]):
  Calls Tryz.prog 71 #[.agg #[ck,cn,cs,.slice la ln lc],.agg #[dk,dn,ds,.slice ma mn mc]] w fun e w'=>e= .returned (.int .i64 r)/\Below w w w'
  :=by
 rw[ydr]at hr;have h1:ck=x.kind:=C.kind;have h2:cn=x.num:=C.n;have h3:cs=x.txt:=C.s;have g1:dk=y.kind:=D.kind;have g2:dn=y.num:=D.n;have g3:ds=y.txt:=D.s;rw[<-h1,<-h2,<-h3,<-g1,<-g2,<-g3]at hr;clear h1 h2 h3 g1 g2 g3;have HC:=zh2 C D;clear C D;have Y:(ck !=dk)=false:=by rw[hk];simp
 rw[Y]at hr;simp only[znl]at hr;subst hk;have HB:=zhd ((((znv w.heap.size w).alloc (znc _) (.cells #[ck,cn,cs,.slice la ln lc] 38)).alloc (by simp) (.cells #[ck,dn,ds,.slice ma mn mc] 38)));clear Y;subst h1;have e1:((3:Int)==1)=false:=rfl;have e2:((3:Int)==2)=false:=rfl;rw[e1,e2]at hr;simp only[beq_self_eq_true,znm,znl]at hr;obtain⟨X,Ae,hel⟩:=hel;obtain⟨V,Ac,hem⟩:=hem;have HR:=zhd hr;have HE:=zh2 hel hem;have Q:=zh2 X V;have h:=zh2 hla hma;have HI:=zhd IH;unfold maxLen at Ae Ac;clear hr e1 e2 hel hem X V hla hma IH;go_in;go_wp2_with fail;obtain⟨M,K⟩:∃M,M=(w.alloc (.cells #[.int .i64 3,cn,cs,.slice la ln lc] 38)).alloc (.cells #[.int .i64 3,dn,ds,.slice ma mn mc] 38):=⟨_,rfl⟩;have p3:M.cell? ⟨w,3,none⟩=some (.slice la ln lc):=by rw[K,zch yaC];rfl
 have m:M.cell? ⟨w.heap.size+1,3,none⟩=some (.slice ma mn mc):=by rw[K,zch yan];rfl
 have U:M.heap.size=w.heap.size+2:=by rw[K];simp
 rw[<-K]at HB|-;have R:=zh3 p3 m U;clear K p3 m U;go_loopg [46] (x.list.length) (fun gk v46 wr=>yqv M x y r gk v46 wr)
 case atStart=>exact⟨0,rfl,znq _,znq _,rfl,HR.o,znv _ _⟩
 case round=>
  obtain⟨i,rfl,hi,hj,L,A,O⟩:=hrel;have b1:=O.size;have s1:w.heap.size+1<wr.heap.size:=by have:=R.o.2.2;omega
  have s0:w<wr.heap.size:=by omega
  have p3:wr.cell? ⟨w,3,none⟩=some (.slice la ln lc):=by rw[O.cell (p:=⟨w,3,none⟩) (show w<M.heap.size by have:=R.o.2.2;omega)];exact R.o.1
  have m:wr.cell? ⟨w.heap.size+1,3,none⟩=some (.slice ma mn mc):=by rw[O.cell (p:=⟨w.heap.size+1,3,none⟩) (show w.heap.size+1<M.heap.size by have:=R.o.2.2;omega)];exact R.o.2.1
  have G:=HB.o.trans (O.mono (show w<=M.heap.size by have:=R.o.2.2;omega));by_cases hin:i<ln
  .obtain⟨z,J⟩:=yac (l:=x.list) (k:=i) (by have:=Q.o.1;omega)
   obtain⟨Am,hg,H,hC,q0,q1,q2,q3⟩:=HE.o.1 i z J;have Ai:(i:Int)<ln:=by omega
   have hla:la=some ⟨g,off,none⟩:=h.o.1.resolve_right (fun e=>by rw[e]at J;simp at J);rw[<-G.cell (p:=⟨g,_,none⟩) hg]at q0 q1 q2 q3;have N:x.list.drop i=z::x.list.drop (i+1):=by
    rw[znr (zge J).1,(zge J).2]
   have Ak:g<wr:=by omega
   subst hla;by_cases hjn:i<mn
   .obtain⟨u,P⟩:=yac (l:=y.list) (k:=i) (by have:=Q.o.2;omega)
    obtain⟨Al,hm,d',hD,m0,m1,m2,m3⟩:=HE.o.2 i u P;have Ah:((i:Int)==mn)=false:=by rw[zna];omega
    have Ag:(i:Int)<mn:=by omega
    have hma:ma=some ⟨g',off',none⟩:=h.o.2.resolve_right (fun e=>by rw[e]at P;simp at P);rw[<-G.cell (p:=⟨g',_,none⟩) hm]at m0 m1 m2 m3;have Z:y.list.drop i=u::y.list.drop (i+1):=by
     rw[znr (zge P).1,(zge P).2]
    have Ad:g'<wr.heap.size:=by omega
    rw[N,Z,ygv]at A;have CW:=zhd (fun W (hW:Below wr wr W)=>HI.o z (by have:=Val.parts_lt (v:=x) (zmg J);omega) u H d' _ _ W (hC.keep (S:=fun _=>False) (zkb (G.trans (hW.mono G.size))) (fun _ _ f=>f)) (hD.keep (S:=fun _=>False) (zkb (G.trans (hW.mono G.size))) (fun _ _ f=>f)));generalize cmpV z u=cv at*;have B:=zh8 A O L G hj hi (zge J).1 (zge P).1;subst hma;clear A O L G J P hC hD N Z;go_wp2_with fail;obtain⟨I,E⟩:∃I,I=wr.alloc (.cells #[H.kind,H.n,H.s,.slice H.la H.ln H.lc] 38):=⟨_,rfl⟩;have q:=zba E;have T:I.heap.size=wr.heap.size+1:=by rw[E];simp
    have z0:I.cell? ⟨wr,0,none⟩=some (.int .i64 H.kind):=by rw[E,zch (znb _ _)];rfl
    have z1:I.cell? ⟨wr,1,none⟩=some (.int .i64 H.n):=by rw[E,zch (znb _ _)];rfl
    have z2:I.cell? ⟨wr,2,none⟩=some (.string H.s):=by rw[E,zch (znb _ _)];rfl
    have z3:I.cell? ⟨wr,3,none⟩=some (.slice H.la H.ln H.lc):=by rw[E,zch (znb _ _)];rfl
    rw[<-E];have t:=zh2 q T;have l6:wr<I.heap.size:=by omega
    rw[<-q.cell (p:=⟨g',_,none⟩) Ad]at m0 m1 m2 m3;rw[<-q.cell (p:=⟨w.heap.size+1,3,none⟩) s1]at m;have Af:g'<I.heap.size:=by omega
    have Aj:w.heap.size+1<I.heap.size:=by omega
    clear E q T;refine yaB (by kernel_rfl) (by kernel_rfl) ?_
    repeat(go_big_quiet_step ((go_at_call 71;exact yc8 (CW.o _ ((t.o.1.trans ((Subtype.property _:Below I I _).mono (by have:=t.o.2;omega))))))))
    refine wpQuiet_nil ?_;intro w7 b;have j:=zhd (t.o.1.trans (b.mono (by have:=t.o.2;omega)));clear b CW;cases J:(cv !=0)with
    |true=>
     have A:=B.o.1;rw[J]at A;simp only[znm]at A;have HM:=zhd A;clear A;go_wp2;go_ret;exact⟨by rw[<-HM.o];rfl,B.o.2.2.2.1.trans (j.o.mono B.o.2.2.2.1.size)⟩
    |false=>
     have A:=B.o.1;rw[J]at A;simp only[znl]at A;have HM:=zhd A;clear A;go_wp2_with fail;go_roundg (x.list.length - (i+1))
     case measure=>have:=B.o.2.2.1;have:=B.o.2.2.2.2.2.2.1;omega
     case rel=>exact⟨i+1,by simp,B.o.2.2.2.2.2.2.1,B.o.2.2.2.2.2.2.2,rfl,HM.o,B.o.2.1.trans (j.o.mono B.o.2.1.size)⟩
   .obtain rfl:i=mn:=by have:=Q.o.2;omega
    have Aa:y.list.drop i=[]:=zns (by have:=Q.o.2;omega);rw[N,Aa,yiE]at A;have B:=zh2 A G;clear A O L G J hC N;go_wp2;go_ret;exact⟨by rw[<-B.o.1];rfl,B.o.2.alloc (by have:=B.o.2.size;omega) _⟩
  .obtain rfl:i=ln:=by have:=Q.o.1;omega
   have Ab:x.list.drop i=[]:=zns (by have:=Q.o.1;omega);rw[Ab,yfL]at A;have a:(y.list.drop i).length=mn - i:=by rw[List.length_drop,<-Q.o.2]
   rw[a]at A;clear a;by_cases hlt:i<mn
   .have e3:(i:Int)<mn:=by omega
    have e4:decide (i<mn)=true:=by rw[decide_eq_true_eq];exact hlt
    rw[show decide (0<mn - i)=true from by rw[decide_eq_true_eq];omega]at A;have B:=zh2 A G;clear A O L G;go_wp2;go_ret;exact⟨by rw[<-B.o.1];rfl,B.o.2⟩
   .have e3:¬(i:Int)<mn:=by omega
    have e4:decide (i<mn)=false:=by rw[znz];exact hlt
    rw[show decide (0<mn - i)=false from by rw[znz];omega]at A;have B:=zh2 A G;clear A O L G;go_wp2;go_ret;exact⟨by rw[<-B.o.1];rfl,B.o.2⟩
theorem ycV:∀(n:Nat) (x:Val),x.parts<=n->∀(y:Val) (c d:VC) (F F':Nat->Prop) (w:World),CF F w c x->CF F' w d y->
   Calls Tryz.prog 71 #[.agg #[c.kind,c.n,c.s,.slice c.la c.ln c.lc],.agg #[d.kind,d.n,d.s,.slice d.la d.ln d.lc]] w fun e w'=>e= .returned (.int .i64 (cmpV x y))/\Below w w w'
 |0,x,hx,_,_,_,_,_,_,_,_=>by have:=x.parts_pos;omega
 |n+1,x,hx,y,⟨ck,cn,cs,la,ln,lc⟩,⟨dk,dn,ds,ma,mn,mc⟩,F,F',w,C,D=>by
  by_cases hk:ck=dk
  .by_cases k1:ck=1
   .exact ynG x y ck cn cs la ln lc dk dn ds ma mn mc F F' w C D _ rfl hk k1
   .by_cases k2:ck=2
    .exact ymt x y ck cn cs la ln lc dk dn ds ma mn mc F F' w C D _ rfl hk k2
    .by_cases k3:ck=3
     .obtain⟨M,L,B⟩:=C.l.elems
      obtain⟨P,O,N⟩:=D.l.elems;have K:∃g A,(la=some ⟨g,A,none⟩\/x.list=[])/\(∀(i:Nat) (z:Val),x.list[i]? =some z->F g/\g<w.heap.size/\∃c,CF F w c z/\
        w.cell? ⟨g,A+i*4,none⟩=some (.int .i64 c.kind)/\w.cell? ⟨g,A+i*4+1,none⟩=some (.int .i64 c.n)/\w.cell? ⟨g,A+i*4+2,none⟩=some (.string c.s)/\w.cell? ⟨g,A+i*4+3,none⟩=some (.slice c.la c.ln c.lc)):=by
       rcases B with B|⟨g,A,E,G,I,B⟩
       .exact⟨0,0,.inr B,fun i y hy=>by rw[B]at hy;simp at hy⟩
       .exact⟨g,A,.inl E,fun i y hy=>⟨G,I,B i y hy⟩⟩
      have J:∃g A,(ma=some ⟨g,A,none⟩\/y.list=[])/\(∀(i:Nat) (z:Val),y.list[i]? =some z->F' g/\g<w.heap.size/\∃c,CF F' w c z/\
        w.cell? ⟨g,A+i*4,none⟩=some (.int .i64 c.kind)/\w.cell? ⟨g,A+i*4+1,none⟩=some (.int .i64 c.n)/\w.cell? ⟨g,A+i*4+2,none⟩=some (.string c.s)/\w.cell? ⟨g,A+i*4+3,none⟩=some (.slice c.la c.ln c.lc)):=by
       rcases N with B|⟨g,A,E,G,I,B⟩
       .exact⟨0,0,.inr B,fun i y hy=>by rw[B]at hy;simp at hy⟩
       .exact⟨g,A,.inl E,fun i y hy=>⟨G,I,B i y hy⟩⟩
      obtain⟨g,A,U,T⟩:=K;obtain⟨Q,H,S,R⟩:=J;exact ymu n (fun y hy=>ycV n y hy) x y ck cn cs la ln lc dk dn ds ma mn mc F F' w C D _ rfl hk k3 hx g A Q H ⟨M,L,T⟩ U ⟨P,O,R⟩ S
     .exact yk9 x y ck cn cs la ln lc dk dn ds ma mn mc F F' w C D _ rfl hk (beq_eq_false_iff_ne.2 k1) (beq_eq_false_iff_ne.2 k2) (beq_eq_false_iff_ne.2 k3)
  .exact ymv x y ck cn cs la ln lc dk dn ds ma mn mc F F' w C D _ rfl (by simpa using hk)
theorem yfs (x y:Val)(c d:VC)(F F':Nat->Prop)(w:World)(C:CF F w c x)(D:CF F' w d y)(b:Bool)(hb:(cmpV x y==0)=b):
  Calls Tryz.prog 33 #[.agg #[c.kind,c.n,c.s,.slice c.la c.ln c.lc],.agg #[d.kind,d.n,d.s,.slice d.la d.ln d.lc]] w fun e w'=>e= .returned (.bool b)/\Below w w w':=by
 have A:Keeps (fun _=>False) w ((w.alloc (.cells #[c.kind,c.n,c.s,.slice c.la c.ln c.lc] 38)).alloc (.cells #[d.kind,d.n,d.s,.slice d.la d.ln d.lc] 38)):=((Keeps.refl _ _).alloc _).alloc _;have CC:=zhd (ycV x.parts x (znc _) y c d F F' _ (C.keep A (fun _ _ f=>f)) (D.keep A (fun _ _ f=>f)));have G:=zhd (A.below (B:=w.heap.size) (znc _) (fun _ _ f=>f));clear C D A;generalize cmpV x y=v at*;go_in;go_wp2_with fail;refine CC.o.mono ?_;rintro e I ⟨rfl,E⟩;have H:=zhd (G.o.trans (E.mono (by simp;omega)));clear E;go_wp2;go_ret;exact⟨rfl,H.o⟩
end Go.Proofs.YtpagmlndgblhhaaGreatDoor
namespace Go.Va
open Go.Own Go.RowKit
def ymB:Val:=.mk 0 0 ⟨#[]⟩ []
def yoi (V:Nat->PR)(s:List UInt8):Nat->Nat->List Val->PR
 |0,_,_=>.bad
 |f+1,k,acc=>
  if yex s k 93=true then .ok (.mk 3 0 ⟨#[]⟩ acc) (k+1)else
  if acc.length≠0/\yex s k 32=false then .bad else
  match V (if acc.length=0 then k else k+1)with
  | .ok x k2=>yoi V s f k2 (acc++[x])
  | .deep=>.deep
  | .bad=>.bad
def yqa:Option (List UInt8×Nat)->PR
 |some (t,k2)=>.ok (.mk 2 0 ⟨t.toArray⟩ []) k2
 |none=>.bad
def yos (L:Nat->PR)(s:List UInt8)(k:Nat):PR:=
 if Lib.hasPrefix (s.drop k) [110,105,108]=true then .ok ymB (k+3)else
 if yex s k 34=true then yqa (ykh [] (k+1) (s.drop (k+1)))else
 if yex s k 91=true then L (k+1)else yf9 s k
def ypd:Nat->List UInt8->Nat->PR
 |0,s,k=>yos (fun _=>.deep) s k
 |n+1,s,k=>yos (fun j=>yoi (ypd n s) s (s.length+1) j []) s k
end Go.Va
namespace Go.Proofs.YtpagmlndgblhhaaGreatDoor
open Go.RowKit Go.Own Go.Own.MapTy Go.Va Go.Sort
open Go.Own.Cells (sz enc)
theorem ybh (n:Int)(w:World):Calls Tryz.prog 106 #[n] w fun e w'=>e= .returned (.agg #[.int .i64 1,n,.string ⟨#[]⟩,.slice none 0 0])/\Below w w w':=by
 go_in;go_wp2_with fail;exact zng (v:=.agg #[.int .i64 1,n,.string ⟨#[]⟩,.slice none 0 0]) (by simp only[results,Tryz.results106];go_simp) rfl ⟨rfl,zal⟩
theorem yoA {b:Nat}{s:ByteArray}{k:Nat}{deep:Bool}{c:UInt8}{w:World}(H:TX w b s k deep)(hs:s.size<=4294967280)(he:yex s.data.toList k c=false):
  Calls Tryz.prog 171 #[.pointer (some ⟨b,0,none⟩),.int .u8 c.toNat] w fun e w'=>e= .returned (.bool false)/\Hid (TX w' b s k deep/\Keeps (fun j=>j=b) w w'):=
 (yk4 b s k deep c w H hs).mono fun e w' ⟨h1,h2⟩=>⟨by rw[h1,he],zhd (by have:=h2.o;rw[he]at this;exact this)⟩
def Z4 (W:World)(B:Nat):Prop:=W.heap[B]? =some (.cells #[.int .i64 0,.int .i64 0,.string .empty,.slice none 0 0] 38 (0,0))
theorem Z4.c0 {W:World}{B:Nat}(h:Z4 W B):W.cell? ⟨B,0,none⟩=some (.int .i64 0):=by rw[zch h];rfl
theorem Z4.c1 {W:World}{B:Nat}(h:Z4 W B):W.cell? ⟨B,1,none⟩=some (.int .i64 0):=by rw[zch h];rfl
theorem Z4.c2 {W:World}{B:Nat}(h:Z4 W B):W.cell? ⟨B,2,none⟩=some (.string .empty):=by rw[zch h];rfl
theorem Z4.c3 {W:World}{B:Nat}(h:Z4 W B):W.cell? ⟨B,3,none⟩=some (.slice none 0 0):=by rw[zch h];rfl
theorem Z4.fr {W:World}{B:Nat}(h:Z4 W B)(o:Nat):W.frozen? ⟨B,o,none⟩=false:=zfr h o
structure VS (w:World)(N b:Nat)(s:ByteArray)(k:Nat)(deep:Bool)(W:World):Prop where
 t:TX W b s k deep
 k:Keeps (fun j=>j=b) w W
 z:Z4 W w.heap.size
 g:Gl Tryz.prog N W
 lt:w<W.heap.size
theorem VS.step {w W W':World}{N b:Nat}{s:ByteArray}{k k':Nat}{deep deep':Bool}(h:VS w N b s k deep W)(b0:b<w)(hN:N<=b)(T:TX W' b s k' deep')(K:Keeps (fun j=>j=b) W W'):VS w N b s k' deep' W':=
 ⟨T,h.k.trans K (fun _ _ e=>e),(K.block _ h.lt (by omega)).trans h.z,h.g.keep K (fun j e=>by omega),znj h.lt K.size⟩
theorem VS.fin {w W:World}{N b:Nat}{s:ByteArray}{k:Nat}{deep:Bool}(h:VS w N b s k deep W)(b0:b<w)(x0 x1 x2 x3:Value):
  TX ((((W.setCell ⟨w,0,none⟩ x0).setCell ⟨w,1,none⟩ x1).setCell ⟨w,2,none⟩ x2).setCell ⟨w,3,none⟩ x3) b s k deep/\
  Keeps (fun j=>j=b) w ((((W.setCell ⟨w,0,none⟩ x0).setCell ⟨w,1,none⟩ x1).setCell ⟨w,2,none⟩ x2).setCell ⟨w,3,none⟩ x3)/\
  Keeps (fun j=>j=w) W ((((W.setCell ⟨w,0,none⟩ x0).setCell ⟨w,1,none⟩ x1).setCell ⟨w,2,none⟩ x2).setCell ⟨w,3,none⟩ x3):=by
 have K:=((((Keeps.refl (fun j=>j=w) W).setCell (p:=⟨w,0,none⟩) (.inl rfl) x0).setCell (p:=⟨w,1,none⟩) (.inl rfl) x1).setCell (p:=⟨w,2,none⟩) (.inl rfl) x2).setCell (p:=⟨w,3,none⟩) (.inl rfl) x3;exact⟨h.t.keep K (by omega),h.k.trans K (fun j hj e=>by omega),K⟩
theorem VS.below {w W W':World}{N b:Nat}{s:ByteArray}{k:Nat}{deep:Bool}(h:VS w N b s k deep W)(b0:b<w)(hN:N<=b)(K:Below W W W'):VS w N b s k deep W':=
 h.step b0 hN (h.t.keep (S:=fun _=>False) (zkb K) (fun f=>f)) ((zkb (S:=fun _=>False) K).mono (fun _ _ f=>f.elim))
def L8 (W:World)(B:Nat)(vl:Value):Prop:=W.heap[B]? =some (.cells #[.int .i64 3,.int .i64 0,.string ⟨#[]⟩,vl] 38 (0,0))
theorem yfJ:ElemOf VC Tryz.prog 25 38 56:=ycl Tryz.underlying25 (z:=.agg #[.int .i64 0,.int .i64 0,.string .empty,.slice none 0 0]) (n:=4) (by kernel_rfl) rfl rfl
def LF (w:World)(B:Nat)(vl:Value):Nat->Prop:=fun j=>w<j/\j≠B/\vl.ownBlock≠some j
def ypB (w:World)(b:Nat)(s:ByteArray)(r:PR)(e:Ending)(w':World):Prop:=
 ∃(c:VC) (k2:Nat),k2<=s.size/\Keeps (fun j=>j=b) w w'/\match r with
  | .ok x k3=>e= .returned (.tuple #[.agg #[c.kind,c.n,c.s,.slice c.la c.ln c.lc],.bool true])/\k2=k3/\CF (fun j=>w<=j) w' c x/\TX w' b s k2 false
  | .deep=>e= .returned (.tuple #[.agg #[c.kind,c.n,c.s,.slice c.la c.ln c.lc],.bool false])/\TX w' b s k2 true
  | .bad=>e= .returned (.tuple #[.agg #[c.kind,c.n,c.s,.slice c.la c.ln c.lc],.bool false])/\TX w' b s k2 false
theorem yl9 {N:Nat}
  (b:Nat)(s:ByteArray)(k:Nat)(d:Nat)(w:World)(H:TX w b s k false)(hs:s.size<=4294967280)(ha:k<=s.size)(G:Gl Tryz.prog N w)(hN:N<=b)
  (hp:Lib.hasPrefix (s.data.toList.drop k) [110,105,108]=false)(h1:yex s.data.toList k 34=false)(h2:yex s.data.toList k 91=false)(r:PR)(hr:yf9 s.data.toList k=r):
  Calls Tryz.prog 151 #[.pointer (some ⟨b,0,none⟩),d] w
   (ypB w b s r):=by
 have p:=zhd hr;clear hr;have S:b<w:=H.lt;have c0:=H.c0;have c1:=H.c1;have Ae:(k:Int)<=s.size:=by omega
 have u:=zh2 H G;clear H G;have Z:=zhd (show∀W,Calls Tryz.prog 170 #[.string (s.extract k s.size),.string ⟨#[110,105,108]⟩] W (fun e w'=>e= .returned (.bool false)/\W=w')from fun W=>(Any.strings_HasPrefix Tryz.lays99 (s.extract k s.size) ⟨#[110,105,108]⟩ W).mono fun e w' ⟨h1,h2⟩=>⟨by rw[h1,show(s.extract k s.size).data.toList=s.data.toList.drop k from by simp[ByteArray.data_extract,zmj],hp],h2.symm⟩);have Ai:=zhd hp;clear hp;go_in;go_wp2_with fail;refine yaB (by kernel_rfl) (by kernel_rfl) ?_
 repeat(go_big_quiet_step ((go_at_call 170;exact yfH (Z.o _))))
 refine wpQuiet_nil ?_;intro w1 R;have E:VS w N b s k false w1:=by
  have Y:Keeps (fun _=>False) w w1:=((Keeps.refl (fun _=>False) w).alloc _).trans (zkb R) (fun _ _ f=>f);exact⟨u.o.1.keep Y (fun f=>f),Y.mono (fun _ _ f=>f.elim),(R.block _ (by simp)).trans (znb _ _),u.o.2.keep Y (fun _ f=>f.elim),by have:=R.size;simp at this;omega⟩
 clear c0 c1 R;have c0:=E.t.c0;have c1:=E.t.c1;have c2:=E.t.c2;have O:=E.z.c0;have M:=E.z.c1;have L:=E.z.c2;have K:=E.z.c3;have P:=E.t.fr;have J:=E.z.fr;have Ad:=E.lt;have m:=zhd E;clear E;go_wp2_with fail;refine(yoA (c:=34) m.o.t hs h1).mono ?_;rintro e w2 ⟨rfl,H2⟩;have D:=zhd (m.o.step S hN H2.o.1 H2.o.2);clear c0 c1 c2 O M L K P J;have c0:=D.o.t.c0;have c1:=D.o.t.c1;have c2:=D.o.t.c2;have O:=D.o.z.c0;have M:=D.o.z.c1;have L:=D.o.z.c2;have K:=D.o.z.c3;have P:=D.o.t.fr;have J:=D.o.z.fr;have Ac:=D.o.lt;have Ah:=D.o.t.lt;go_wp2_with fail;refine(yoA (c:=91) D.o.t hs h2).mono ?_;rintro e w3 ⟨rfl,y⟩;have B:=zhd (D.o.step S hN y.o.1 y.o.2);clear c0 c1 c2 O M L K P J;have c0:=B.o.t.c0;have c1:=B.o.t.c1;have c2:=B.o.t.c2;have O:=B.o.z.c0;have M:=B.o.z.c1;have L:=B.o.z.c2;have K:=B.o.z.c3;have P:=B.o.t.fr;have J:=B.o.z.fr;have Ab:=B.o.lt;have Ag:=B.o.t.lt;go_wp2_with fail;refine(yjk b s k false w3 B.o.t hs ha B.o.g hN).mono ?_;rintro e w4 ⟨i,j,a⟩;have Q:=(yga (s:=s.data.toList) (k:=k) (by simpa using ha)).2
 have Q:yb5 s.data.toList k<=s.size:=by simpa using Q
 have q:=zhd Q;clear Q;have C:=zhd (B.o.step S hN i j);clear c0 c1 c2 O M L K P J;have c0:=C.o.t.c0;have c1:=C.o.t.c1;have c2:=C.o.t.c2;have O:=C.o.z.c0;have M:=C.o.z.c1;have L:=C.o.z.c2;have K:=C.o.z.c3;have P:=C.o.t.fr;have J:=C.o.z.fr;have Aa:=C.o.lt;have Af:=C.o.t.lt;clear i j;rw[p.o]at a;cases r with
 |ok x k2=>
  obtain⟨rfl,h,U⟩:=a;have l:=zh2 h U;clear h U;go_wp2_with fail;refine(ybh _ _).mono ?_;rintro e w5 ⟨rfl,I⟩;have A:=zhd (C.o.below S hN I);clear c0 c1 c2 O M L K P J;have c0:=A.o.t.c0;have c1:=A.o.t.c1;have c2:=A.o.t.c2;have O:=A.o.z.c0;have M:=A.o.z.c1;have L:=A.o.z.c2;have K:=A.o.z.c3;have P:=A.o.t.fr;have J:=A.o.z.fr;have V:=A.o.lt;have X:=A.o.t.lt;clear I;go_wp2_with fail;have F:=A.o.fin S (.int .i64 1) (.int .i64 x.num) (.string ⟨#[]⟩) (.slice none 0 0);exact zng (v:=.tuple #[.agg #[.int .i64 1,x.num,.string ⟨#[]⟩,.slice none 0 0],.bool true]) (by simp only[results,Tryz.results151];go_simp) rfl ⟨⟨1,x.num,⟨#[]⟩,none,0,0⟩,yb5 s.data.toList k,q.o,F.2.1,rfl,l.o.2.symm,by rw[l.o.1];exact⟨rfl,rfl,rfl,VF.nil _ _⟩,F.1⟩
 |deep=>
  exfalso;have T:=p.o;unfold yf9 at T;split at T
  .split at T<;>cases T
  .cases T
 |bad=>
  obtain⟨n,rfl⟩:=a;go_wp2_with fail;refine(ybh _ _).mono ?_;rintro e w5 ⟨rfl,I⟩;have A:=zhd (C.o.below S hN I);clear c0 c1 c2 O M L K P J;have c0:=A.o.t.c0;have c1:=A.o.t.c1;have c2:=A.o.t.c2;have O:=A.o.z.c0;have M:=A.o.z.c1;have L:=A.o.z.c2;have K:=A.o.z.c3;have P:=A.o.t.fr;have J:=A.o.z.fr;have V:=A.o.lt;have X:=A.o.t.lt;clear I;go_wp2_with fail;have F:=A.o.fin S (.int .i64 1) (.int .i64 n) (.string ⟨#[]⟩) (.slice none 0 0);exact zng (v:=.tuple #[.agg #[.int .i64 1,n,.string ⟨#[]⟩,.slice none 0 0],.bool false]) (by simp only[results,Tryz.results151];go_simp) rfl ⟨⟨1,n,⟨#[]⟩,none,0,0⟩,yb5 s.data.toList k,q.o,F.2.1,rfl,F.1⟩
end Go.Proofs.YtpagmlndgblhhaaGreatDoor
namespace Go.Va
open Go.Own Go.RowKit
def checkL (x:Val):Int:=bif (yal x 0 (0,0)).2 !=0 then(yal x 0 (0,0)).2 else bif decide (512<(yah x).length)then 2 else 0
mutual
theorem yh2:∀(x:Val) (d p:Nat),(yal x d (p,0)).2=0->(yah x).length+280*p<=280*(yal x d (p,0)).1
 | .mk k n s l,d,p,h=>by
   rw[yal]at h|-;rw[yah];simp only[bne_self_eq_false,znl]at h|-;cases h2:decide (256<=p)with
   |true=>rw[h2]at h;simp at h
   |false=>
    rw[h2]at h;simp only[znl]at h|-;have z1:=ybF (zigL n);have C:=ybF l.length;cases h3:(k==0||k==1)with
    |true=>
     rw[h3]at h;simp only[znm];have B:k=0\/k=1:=by simpa using h3
     rcases B with rfl|rfl<;>simp<;>omega
    |false=>
     rw[h3]at h;simp only[znl]at h|-;rw[Bool.or_eq_false_iff]at h3;rw[h3.2];cases h5:(k==2)with
     |true=>
      rw[h5]at h;simp only[znm,znl]at h|-;have D:¬256<s.size:=fun e=>by rw[show decide (256<s.size)=true from by simpa using e]at h;simp at h
      have A:=ybF s.data.toList.length;simp[Go.Va.textB];simp at A;omega
     |false=>
      rw[h5]at h;simp only[znl]at h|-;cases h6:(k==3)with
      |true=>
       rw[h6]at h;simp only[znm]at h|-;generalize he:(bif decide (8<=d)then(30:Int)else bif decide (64<l.length)then 2 else 0)=e at h|-;by_cases hz:e=0
       .subst hz
        have:=yh3 l (d+1) (p+1) h;simp;omega
       .rw[ya3 _ _ _ (by simpa using hz)]at h
        exact absurd h hz
      |false=>rw[h6]at h;simp at h
theorem yh3:∀(l:List Val) (d p:Nat),(yal.walkL l d (p,0)).2=0->(yah.bytesL l).length+280*p<=280*(yal.walkL l d (p,0)).1
 |[],d,p,h=>by rw[ya2,ydu];simp
 |x::r,d,p,h=>by
  rw[yaP]at h|-;simp only[bne_self_eq_false,znl]at h|-;rw[ybq,znk];generalize hc:yal x d (p,0)=c at h|-;obtain⟨q,e⟩:=c;by_cases hz:e=0
  .subst hz
   have A:=yh2 x d p (by rw[hc]);have B:=yh3 r d q h;rw[hc]at A;dsimp only at A;omega
  .rw[ya3 _ _ _ (by simpa using hz)]at h
   exact absurd h hz
end
theorem yeF {x:Val}(h:(yal x 0 (0,0)).2=0):(yah x).length<=71680:=by
 have B:=yh2 x 0 0 h;have A:=ycZ x 0 (0,0) (fun _=>by decide) h;omega
theorem yeU {l:List UInt8}{v:Int}(h:Lib.parseIntB 64 l= .ok v): -9223372036854775808<=v/\v<=9223372036854775807:=by
 unfold Lib.parseIntB at h;cases l with
 |nil=>cases h
 |cons c r=>
  dsimp only at h;split at h
  .cases h
  .cases h
  .rename_i u C
   split at h
   .cases h
   .rename_i B
    split at h
    .cases h
    .rename_i A
     cases h;by_cases hn:c.toNat=45
     .simp[hn]at A|-
      omega
     .simp[hn]at B|-
      omega
theorem ykt {s:List UInt8}{k:Nat}{x:Val}{k2:Nat}(h:yf9 s k= .ok x k2):x.wf:=by
 unfold yf9 at h;split at h
 .rename_i v hv
  split at h
  .cases h
   have:=yeU hv;rw[Val.wf,Val.wf.wfL];exact⟨⟨by decide,by decide⟩,this,znq _,trivial⟩
  .cases h
 .cases h
def yc4 (s:List UInt8):Val×Int:=
 match ypd 8 s 0 with
 | .deep=>(ymB,30)
 | .bad=>(ymB,8)
 | .ok x k=>if k<s.length then(ymB,8)else if checkL x≠0 then(ymB,checkL x)else(x,0)
end Go.Va
namespace Go.Proofs.YtpagmlndgblhhaaGreatDoor
open Go.RowKit Go.Own Go.Own.MapTy Go.Va Go.Sort
open Go.Own.Cells (sz enc)
theorem yaF (x:Val)(ck cn:Int)(cs:ByteArray)(la:Option Addr)(ln lc:Nat)(F:Nat->Prop)(w:World)(C:CF F w ⟨ck,cn,cs,la,ln,lc⟩ x)(hw:x.wf)(r:Int)(hr:checkL x=r):
  Calls Tryz.prog 55 #[.agg #[ck,cn,cs,.slice la ln lc]] w fun e w'=>e= .returned (.int .i64 r)/\Below w w w':=by
 have M:=C.mono (G:=fun j=>j<w) (fun j _ h=>h);have P:Keeps (fun _=>False) w ((w.alloc (.cells #[ck,cn,cs,.slice la ln lc] 38)).alloc (.cells #[.int .i64 0,.int .i64 0] 182)):=((Keeps.refl _ _).alloc _).alloc _;have R:=zhd (show Calls Tryz.prog 99 #[.pointer (some ⟨w.heap.size+1,0,none⟩),.agg #[ck,cn,cs,.slice la ln lc],.int .i64 0] _ (yhX _ (w.heap.size+1) (yal x 0 (0,0)))from yh1 x.parts x (znc _) (w.heap.size+1) 0 0 0 ⟨ck,cn,cs,la,ln,lc⟩ _ _ (show CX _ (w.heap.size+1) (0,0)from yan) (M.keep P (fun _ _ f=>f)) (by omega) (by omega) (fun _=>by omega));have I:=zh3 M hw hr;clear C M hw hr P;go_in;go_wp2_with fail;refine R.o.mono ?_;rintro e A ⟨rfl,N,H⟩;have q:∀o,A.cell? ⟨w,o,none⟩=(#[.int .i64 ck,.int .i64 cn,.string cs,.slice la ln lc]:Array Value)[o]? :=fun o=>by
  rw[H.cell (p:=⟨w,o,none⟩) (by simp;omega) (show¬w.heap.size=w.heap.size+1 by omega),zch yaC]
 have a:=q 0;have Z:=q 1;have Y:=q 2;have X:=q 3;simp only[zmc,zma,zmb]at a Z Y X;have c1:=N.c1;have J:=H.size;simp at J;have W:w<A.heap.size:=by omega
 have K:=zhd (show Below w w A from(((zal).alloc (by simp) _).trans (H.below (B:=w.heap.size) (by simp;omega) (fun k hk e=>by omega))));clear q R N H;generalize hc:yal x 0 (0,0)=c at*;cases he:(c.2 !=0)with
 |true=>
  have hr:=I.o.2.2;unfold checkL at hr;rw[hc,he]at hr;simp only[znm]at hr;have D:=zhd hr;clear hr hc;go_wp2;go_ret;exact⟨by rw[<-D.o];rfl,K.o⟩
 |false=>
  have hr:=I.o.2.2;unfold checkL at hr;rw[hc,he]at hr;simp only[znl]at hr;have i:=yeF (x:=x) (by rw[hc];simpa using he);have U:=I.o.1.keep (zkb (S:=fun _=>False) K.o) (fun _ _ f=>f);have O:WB (A.alloc (.cells #[.slice none 0 0] 131)) A.heap.size []:=⟨none,0,znb _ _,RowAt.nil _ _,fun e=>by cases e⟩;have T:=U.keep (S:=fun _=>False) ((Keeps.refl _ _).alloc (.cells #[.slice none 0 0] 131)) (fun _ _ f=>f);have Q:=zhd (ydZ x.parts x (znc _) A.heap.size [] ⟨ck,cn,cs,la,ln,lc⟩ _ _ O T (fun j h=>⟨by omega,fun⟨v,h1,h2⟩=>by
   rw[znb]at h1;cases h1;cases h2⟩) I.o.2.1 (by simp;omega))
  have D:=zhd hr;clear hr hc U T O;go_wp2_with fail;refine Q.o.mono ?_;rintro e V ⟨rfl,L⟩;rw[List.nil_append]at L;have E:=zhd (show Below w w V from(K.o.alloc (by omega) _).trans (L.o.2.1.below (B:=w.heap.size) (by simp;omega) (fun k hk e=>e.elim (fun e=>by omega) (fun⟨v,h1,h2⟩=>by
   rw[znb]at h1;cases h1;cases h2))))
  have d:=zhd (ynj A.heap.size _ _ L.o.1);clear Q;go_wp2_with fail;refine d.o.mono ?_;rintro e g ⟨rfl,rfl⟩;generalize hn:(yah x).length=n at*;cases hg:decide (512<n)with
  |true=>
   rw[hg]at D;have b:(512:Int)<n:=by have:=znx hg;omega
   clear hn hg;go_wp2;go_ret;exact⟨by rw[<-D.o];rfl,E.o⟩
  |false=>
   rw[hg]at D;have b:¬(512:Int)<n:=by have:=zny hg;omega
   clear hn hg;go_wp2;go_ret;exact⟨by rw[<-D.o];rfl,E.o⟩
theorem yiH {w W:World}(h:Below w w W)(x0 x1 x2 x3:Value):Below w w ((((W.setCell ⟨w,0,none⟩ x0).setCell ⟨w,1,none⟩ x1).setCell ⟨w,2,none⟩ x2).setCell ⟨w,3,none⟩ x3):=
 (((h.setCell (znc _) _).setCell (znc _) _).setCell (znc _) _).setCell (znc _) _
theorem ypl (B:Nat)(W:World)(x0 x1 x2 x3:Value):Keeps (fun j=>j=B) W ((((W.setCell ⟨B,0,none⟩ x0).setCell ⟨B,1,none⟩ x1).setCell ⟨B,2,none⟩ x2).setCell ⟨B,3,none⟩ x3):=
 ((((Keeps.refl (fun j=>j=B) W).setCell (p:=⟨B,0,none⟩) (.inl rfl) x0).setCell (p:=⟨B,1,none⟩) (.inl rfl) x1).setCell (p:=⟨B,2,none⟩) (.inl rfl) x2).setCell (p:=⟨B,3,none⟩) (.inl rfl) x3
def yoS (w:World)(r:Val×Int)(e:Ending)(w':World):Prop:=
 ∃c:VC,e= .returned (.tuple #[.agg #[c.kind,c.n,c.s,.slice c.la c.ln c.lc],.int .i64 r.2])/\CF (fun j=>w<=j) w' c r.1/\Below w w w'
end Go.Proofs.YtpagmlndgblhhaaGreatDoor
namespace Go.Va
open Go.Own Go.RowKit
def yne (s:List UInt8):Option Nat:=
 match Lib.atoiAll s with
 | .ok v=>if 0<=v/\v<100/\Lib.decDigits v.toNat=s then some v.toNat else none
 |_=>none
def ym5 (s:List UInt8):Option ByteArray:=if(yc4 s).2=0/\(yc4 s).1.kind=2 then some (yc4 s).1.txt else none
structure In where
 op:Int
 a:Int
instance:Cells In where
 sz:=2
 enc:=fun c=>[.int .i64 c.op,.int .i64 c.a]
 len:=fun _=>rfl
 one:=by
  intro x v hv;simp at hv;rcases hv with rfl|rfl<;>rfl
instance:Cells ByteArray where
 sz:=1
 enc:=fun s=>[.string s]
 len:=fun _=>rfl
 one:=by
  intro x v hv;simp at hv;subst hv;rfl
structure Jp where
 at_:Int
 line:Int
 label:ByteArray
instance:Cells Jp where
 sz:=3
 enc:=fun j=>[.int .i64 j.at_,.int .i64 j.line,.string j.label]
 len:=fun _=>rfl
 one:=by
  intro x v hv;simp at hv;rcases hv with rfl|rfl|rfl<;>rfl
def SM:MapTy ByteArray Int:=⟨fun s=>.string s,fun n=>.int .i64 n,fun a b h=>by simpa using h⟩
structure RV where
 vc:Value
 vk:Value
 vn:Value
 vj:Value
 pl:Int
 mb:Option Nat
structure RSt where
 code:List In
 consts:List Val
 names:List ByteArray
 places:Int
 labels:List (ByteArray×Int)
 jumps:List Jp
def RO (v:RV)(b j:Nat):Prop:=j=b\/v.mb=some j\/v.vc.ownBlock=some j\/v.vk.ownBlock=some j\/v.vn.ownBlock=some j\/v.vj.ownBlock=some j
structure Sep (v:RV)(b:Nat):Prop where
 m:∀j,v.mb=some j->j≠b
 c:∀j,v.vc.ownBlock=some j->j≠b/\v.mb≠some j
 k:∀j,v.vk.ownBlock=some j->j≠b/\v.mb≠some j/\v.vc.ownBlock≠some j
 n:∀j,v.vn.ownBlock=some j->j≠b/\v.mb≠some j/\v.vc.ownBlock≠some j/\v.vk.ownBlock≠some j
 j:∀j,v.vj.ownBlock=some j->j≠b/\v.mb≠some j/\v.vc.ownBlock≠some j/\v.vk.ownBlock≠some j/\v.vn.ownBlock≠some j
structure RS (W:World)(tr ti tv ts tj:TypeId)(Z:Nat->Prop)(b:Nat)(v:RV)(st:RSt):Prop where
 h:W.heap[b]? =some (.cells #[v.vc,v.vk,v.vn,v.pl,.map v.mb,v.vj] tr (0,0))
 code:RowAt W ti v.vc st.code
 consts:VRow (fun j=>¬RO v b j/\Z j) W tv v.vk st.consts
 names:RowAt W ts v.vn st.names
 jumps:RowAt W tj v.vj st.jumps
 pl:v.pl=st.places
 labels:∀m,v.mb=some m->MapAt SM W m st.labels
 sep:Sep v b
def RK (b:Nat)(v:RV)(W:World)(v':RV)(W':World):Prop:=Keeps (RO v b) W W'/\(∀j,RO v' b j->RO v b j\/W.heap.size<=j)/\v'.mb=v.mb
theorem RK.refl (b:Nat)(v:RV)(W:World):RK b v W v W:=⟨Keeps.refl _ _,fun _ h=>.inl h,rfl⟩
theorem RK.trans {b:Nat}{v v' v'':RV}{W W' W'':World}(h:RK b v W v' W')(k:RK b v' W' v'' W''):RK b v W v'' W'':=by
 refine⟨h.1.trans k.1 (fun j hj e=>(h.2.1 j e).resolve_right (by omega)),fun j hj=> ?_,k.2.2.trans h.2.2⟩;rcases k.2.1 j hj with A|A
 .exact h.2.1 j A
 .exact .inr (znf h.1.size A)
theorem RK.ext {b:Nat}{v:RV}{W W':World}(K:Below W W W'):RK b v W v W':=⟨(zkb (S:=fun _=>False) K).mono (fun _ _ f=>f.elim),fun _ h=>.inl h,rfl⟩
section
variable{W W':World} {tr ti tv ts tj:TypeId} {Z Z':Nat->Prop} {b:Nat} {v:RV} {st:RSt}
theorem RS.lt (R:RS W tr ti tv ts tj Z b v st){j:Nat}(h:RO v b j):j<W:=by
 rcases h with rfl|h|h|h|h|h
 .exact zlt R.h
 .exact(R.labels j h).lt
 .exact R.code.lt h
 .obtain⟨B,A,_⟩:=R.consts
  exact A.lt h
 .exact R.names.lt h
 .exact R.jumps.lt h
theorem RS.far {S:Nat->Prop}(R:RS W tr ti tv ts tj Z b v st)(K:Keeps S W W')(h1:∀j,S j->¬RO v b j)(h2:∀j,S j->¬Z j):RS W' tr ti tv ts tj Z b v st:=
 ⟨(K.block b (zlt R.h) (fun s=>h1 b s (.inl rfl))).trans R.h,R.code.keep K (fun g hg s=>h1 g s (.inr (.inr (.inl hg)))),R.consts.keep K (fun g h s=>h2 g s h.2) (fun g hg s=>h1 g s (.inr (.inr (.inr (.inl hg))))),R.names.keep K (fun g hg s=>h1 g s (.inr (.inr (.inr (.inr (.inl hg)))))),R.jumps.keep K (fun g hg s=>h1 g s (.inr (.inr (.inr (.inr (.inr hg)))))),R.pl,fun m hm=>(R.labels m hm).keep K (fun s=>h1 m s (.inr (.inl hm))),R.sep⟩
theorem RS.monoZ (R:RS W tr ti tv ts tj Z b v st)(h:∀j,Z j->j<W.heap.size->Z' j):RS W tr ti tv ts tj Z' b v st:=
 ⟨R.h,R.code,R.consts.mono (fun j hj hl=>⟨hj.1,h j hj.2 hl⟩),R.names,R.jumps,R.pl,R.labels,R.sep⟩
theorem RS.ext (R:RS W tr ti tv ts tj Z b v st)(K:Below W W W'):RS W' tr ti tv ts tj Z b v st:=
 have A:Keeps (fun _=>False) W W':=zkb K
 ⟨(K.block b (zlt R.h)).trans R.h,R.code.keep A (fun _ _ f=>f),R.consts.keep A (fun _ _ f=>f) (fun _ _ f=>f),R.names.keep A (fun _ _ f=>f),R.jumps.keep A (fun _ _ f=>f),R.pl,fun m hm=>(R.labels m hm).keep A (fun f=>f),R.sep⟩
theorem RS.setCode (R:RS W tr ti tv ts tj Z b v st){w1:World}{v1:Value}{l1:List In}(hr:RowAt w1 ti v1 l1)(K:Keeps (fun j=>v.vc.ownBlock=some j) W w1)(hf:∀g,v1.ownBlock=some g->v.vc.ownBlock=some g\/W.heap.size<=g):
  RS (w1.setCell ⟨b,0,none⟩ v1) tr ti tv ts tj Z b {v with vc:=v1} {st with code:=l1}/\RK b v W {v with vc:=v1} (w1.setCell ⟨b,0,none⟩ v1):=by
 have D:v.vc.ownBlock≠some b:=fun e=>(R.sep.c b e).1 rfl;have H:w1.heap[b]? =some (.cells #[v.vc,v.vk,v.vn,v.pl,.map v.mb,v.vj] tr (0,0)):=(K.block b (zlt R.h) D).trans R.h;have E:Keeps (fun j=>j=b) w1 (w1.setCell ⟨b,0,none⟩ v1):=Keeps.setCell (S:=fun j=>j=b) (p:=⟨b,0,none⟩) (Keeps.refl _ _) (.inl rfl) _;have B:Keeps (fun j=>j=b\/v.vc.ownBlock=some j) W (w1.setCell ⟨b,0,none⟩ v1):=(K.mono (fun _ _ e=>.inr e)).trans E (fun _ _ e=>.inl e);have A:∀j,v1.ownBlock=some j->j≠b/\v.mb≠some j/\v.vk.ownBlock≠some j/\v.vn.ownBlock≠some j/\v.vj.ownBlock≠some j:=fun j hj=>by
  rcases hf j hj with h|h
  .exact⟨(R.sep.c j h).1,(R.sep.c j h).2,fun e=>(R.sep.k j e).2.2 h,fun e=>(R.sep.n j e).2.2.1 h,fun e=>(R.sep.j j e).2.2.1 h⟩
  .exact⟨(fun e=>by have:=R.lt (j:=j) (.inl e);omega),(fun e=>by have:=R.lt (j:=j) (.inr (.inl e));omega),(fun e=>by have:=R.lt (j:=j) (.inr (.inr (.inr (.inl e))));omega),(fun e=>by have:=R.lt (j:=j) (.inr (.inr (.inr (.inr (.inl e)))));omega),(fun e=>by have:=R.lt (j:=j) (.inr (.inr (.inr (.inr (.inr e)))));omega)⟩
 have F:∀j,RO v b j->j<W.heap.size:=fun j=>R.lt;have C:VRow (fun j=>¬RO {v with vc:=v1} b j/\Z j) (w1.setCell ⟨b,0,none⟩ v1) tv v.vk st.consts:=by
  refine((R.consts.mono (G:=fun j=>(¬RO v b j/\Z j)/\¬v1.ownBlock=some j) (fun j h l=>⟨h,fun e=>(hf j e).elim (fun h1=>h.1 (.inr (.inr (.inl h1)))) (fun h1=>by omega)⟩)).keep B (fun g h e=>h.1.1 (e.elim .inl (fun e=>.inr (.inr (.inl e))))) (fun g hg e=>e.elim (R.sep.k g hg).1 (fun e=>(R.sep.k g hg).2.2 e))).mono (fun j h _=>⟨fun e=> ?_,h.1.2⟩);rcases e with e|e|e|e|e|e
  .exact h.1.1 (.inl e)
  .exact h.1.1 (.inr (.inl e))
  .exact h.2 e
  .exact h.1.1 (.inr (.inr (.inr (.inl e))))
  .exact h.1.1 (.inr (.inr (.inr (.inr (.inl e)))))
  .exact h.1.1 (.inr (.inr (.inr (.inr (.inr e)))))
 refine⟨⟨by simp[World.setCell,zni,H],hr.keep E (fun g hg=>(A g hg).1),C,R.names.keep B (fun g hg e=>e.elim (R.sep.n g hg).1 (fun e=>(R.sep.n g hg).2.2.1 e)),R.jumps.keep B (fun g hg e=>e.elim (R.sep.j g hg).1 (fun e=>(R.sep.j g hg).2.2.1 e)),R.pl,fun m hm=>(R.labels m hm).keep B (fun e=>e.elim (R.sep.m m hm) (fun e=>(R.sep.c m e).2 hm)),⟨R.sep.m,fun j hj=>⟨(A j hj).1,(A j hj).2.1⟩,fun j hj=>⟨(R.sep.k j hj).1,(R.sep.k j hj).2.1,fun e=>(A j e).2.2.1 hj⟩,fun j hj=>⟨(R.sep.n j hj).1,(R.sep.n j hj).2.1,fun e=>(A j e).2.2.2.1 hj,(R.sep.n j hj).2.2.2⟩,fun j hj=>⟨(R.sep.j j hj).1,(R.sep.j j hj).2.1,fun e=>(A j e).2.2.2.2 hj,(R.sep.j j hj).2.2.2.1,(R.sep.j j hj).2.2.2.2⟩⟩⟩,B.mono (fun j _ e=>e.elim .inl (fun e=>.inr (.inr (.inl e)))),fun j hj=> ?_,rfl⟩;rcases hj with e|e|e|e|e|e
 .exact .inl (.inl e)
 .exact .inl (.inr (.inl e))
 .exact(hf j e).elim (fun h1=>.inl (.inr (.inr (.inl h1)))) .inr
 .exact .inl (.inr (.inr (.inr (.inl e))))
 .exact .inl (.inr (.inr (.inr (.inr (.inl e)))))
 .exact .inl (.inr (.inr (.inr (.inr (.inr e)))))
theorem RS.setConsts (R:RS W tr ti tv ts tj Z b v st){w1:World}{v1:Value}{l1:List Val}(hr:VRow (fun j=>(¬RO v b j/\Z j)/\¬v1.ownBlock=some j) w1 tv v1 l1)(K:Keeps (fun j=>v.vk.ownBlock=some j) W w1)(hf:∀g,v1.ownBlock=some g->v.vk.ownBlock=some g\/W.heap.size<=g):
  RS (w1.setCell ⟨b,1,none⟩ v1) tr ti tv ts tj Z b {v with vk:=v1} {st with consts:=l1}/\RK b v W {v with vk:=v1} (w1.setCell ⟨b,1,none⟩ v1):=by
 have D:v.vk.ownBlock≠some b:=fun e=>(R.sep.k b e).1 rfl;have G:w1.heap[b]? =some (.cells #[v.vc,v.vk,v.vn,v.pl,.map v.mb,v.vj] tr (0,0)):=(K.block b (zlt R.h) D).trans R.h;have E:Keeps (fun j=>j=b) w1 (w1.setCell ⟨b,1,none⟩ v1):=Keeps.setCell (S:=fun j=>j=b) (p:=⟨b,1,none⟩) (Keeps.refl _ _) (.inl rfl) _;have B:Keeps (fun j=>j=b\/v.vk.ownBlock=some j) W (w1.setCell ⟨b,1,none⟩ v1):=(K.mono (fun _ _ e=>.inr e)).trans E (fun _ _ e=>.inl e);have A:∀j,v1.ownBlock=some j->j≠b/\v.mb≠some j/\v.vc.ownBlock≠some j/\v.vn.ownBlock≠some j/\v.vj.ownBlock≠some j:=fun j hj=>by
  rcases hf j hj with h|h
  .exact⟨(R.sep.k j h).1,(R.sep.k j h).2.1,(R.sep.k j h).2.2,fun e=>(R.sep.n j e).2.2.2 h,fun e=>(R.sep.j j e).2.2.2.1 h⟩
  .exact⟨(fun e=>by have:=R.lt (j:=j) (.inl e);omega),(fun e=>by have:=R.lt (j:=j) (.inr (.inl e));omega),(fun e=>by have:=R.lt (j:=j) (.inr (.inr (.inl e)));omega),(fun e=>by have:=R.lt (j:=j) (.inr (.inr (.inr (.inr (.inl e)))));omega),(fun e=>by have:=R.lt (j:=j) (.inr (.inr (.inr (.inr (.inr e)))));omega)⟩
 have F:∀j,RO v b j->j<W.heap.size:=fun j=>R.lt;have C:VRow (fun j=>¬RO {v with vk:=v1} b j/\Z j) (w1.setCell ⟨b,1,none⟩ v1) tv v1 l1:=by
  refine(hr.keep E (fun g h e=>h.1.1 (.inl e)) (fun g hg=>(A g hg).1)).mono (fun j h _=>⟨fun e=> ?_,h.1.2⟩);rcases e with e|e|e|e|e|e
  .exact h.1.1 (.inl e)
  .exact h.1.1 (.inr (.inl e))
  .exact h.1.1 (.inr (.inr (.inl e)))
  .exact h.2 e
  .exact h.1.1 (.inr (.inr (.inr (.inr (.inl e)))))
  .exact h.1.1 (.inr (.inr (.inr (.inr (.inr e)))))
 refine⟨⟨by simp[World.setCell,zni,G],R.code.keep B (fun g hg e=>e.elim (R.sep.c g hg).1 (fun e=>(R.sep.k g e).2.2 hg)),C,R.names.keep B (fun g hg e=>e.elim (R.sep.n g hg).1 (fun e=>(R.sep.n g hg).2.2.2 e)),R.jumps.keep B (fun g hg e=>e.elim (R.sep.j g hg).1 (fun e=>(R.sep.j g hg).2.2.2.1 e)),R.pl,fun m hm=>(R.labels m hm).keep B (fun e=>e.elim (R.sep.m m hm) (fun e=>(R.sep.k m e).2.1 hm)),⟨R.sep.m,R.sep.c,fun j hj=>⟨(A j hj).1,(A j hj).2.1,(A j hj).2.2.1⟩,fun j hj=>⟨(R.sep.n j hj).1,(R.sep.n j hj).2.1,(R.sep.n j hj).2.2.1,fun e=>(A j e).2.2.2.1 hj⟩,fun j hj=>⟨(R.sep.j j hj).1,(R.sep.j j hj).2.1,(R.sep.j j hj).2.2.1,fun e=>(A j e).2.2.2.2 hj,(R.sep.j j hj).2.2.2.2⟩⟩⟩,B.mono (fun j _ e=>e.elim .inl (fun e=>.inr (.inr (.inr (.inl e))))),fun j hj=> ?_,rfl⟩;rcases hj with e|e|e|e|e|e
 .exact .inl (.inl e)
 .exact .inl (.inr (.inl e))
 .exact .inl (.inr (.inr (.inl e)))
 .exact(hf j e).elim (fun h1=>.inl (.inr (.inr (.inr (.inl h1))))) .inr
 .exact .inl (.inr (.inr (.inr (.inr (.inl e)))))
 .exact .inl (.inr (.inr (.inr (.inr (.inr e)))))
end
def yn4 (s:ByteArray):List ByteArray->Nat->Option Nat
 |[],_=>none
 |x::r,i=>bif s.data.toList==x.data.toList then some i else yn4 s r (i+1)
def yoH (s:ByteArray)(l:List ByteArray):Nat×List ByteArray:=
 match yn4 s l 0 with
 |some i=>(i,l)
 |none=>(l.length,l++[s])
def yiT (x:Val):List Val->Nat->Option Nat
 |[],_=>none
 |y::r,i=>bif cmpV x y==0 then some i else yiT x r (i+1)
def yfQ (x:Val)(l:List Val):Nat×List Val:=
 match yiT x l 0 with
 |some i=>(i,l)
 |none=>(l.length,l++[x])
end Go.Va
namespace Go.Proofs.YtpagmlndgblhhaaGreatDoor
open Go.RowKit Go.Own Go.Own.MapTy Go.Va Go.Sort
open Go.Own.Cells (sz enc)
abbrev RX (Z:Nat->Prop)(W:World)(b:Nat)(v:RV)(st:RSt):Prop:=RS W 97 106 38 9 103 Z b v st
def ypI (Z:Nat->Prop)(W:World)(b:Nat)(v:RV)(r:Value)(st:RSt)(e:Ending)(w':World):Prop:=∃v',e= .returned r/\Hid (RX Z w' b v' st/\RK b v W v' w')
theorem ypw:ElemOf ByteArray Tryz.prog 26 9 16:=ycl Tryz.underlying26 (z:=.string .empty) (n:=1) (by kernel_rfl) rfl rfl
theorem ygN {wr w1:World}{X:Obj}{ks:List VC}{z:VC}{a a1:Option Addr}{cap q1 n b B:Nat}{T:TypeId}(hn:ks.length=n)(hr:RowAt w1 T (.slice a1 (n+1) q1) (ks++[z]))(hk:Keeps (fun j=>(Value.slice a n cap).ownBlock=some j) (wr.drew.alloc X) w1)(hf:∀g,(Value.slice a1 (n+1) q1).ownBlock=some g->(Value.slice a n cap).ownBlock=some g\/(wr.drew.alloc X).heap.size<=g)
  (hb:b<wr)(hB:B<wr.heap.size)(nb:∀g,(Value.slice a n cap).ownBlock=some g->g≠b/\g≠B):
  ∃g1 off1,a1=some ⟨g1,off1,none⟩/\(w1.cell? ⟨g1,off1+n*4,none⟩=some (.int .i64 z.kind)/\w1.cell? ⟨g1,off1+n*4+1,none⟩=some (.int .i64 z.n)/\w1.cell? ⟨g1,off1+n*4+2,none⟩=some (.string z.s)/\w1.cell? ⟨g1,off1+n*4+3,none⟩=some (.slice z.la z.ln z.lc))/\
   (∀o,w1.frozen? ⟨g1,o,none⟩=false)/\(∀o,w1.cell? ⟨b,o,none⟩=wr.cell? ⟨b,o,none⟩)/\(∀o,w1.frozen? ⟨b,o,none⟩=wr.frozen? ⟨b,o,none⟩)/\(∀o,w1.cell? ⟨B,o,none⟩=wr.cell? ⟨B,o,none⟩)/\(¬g1=b/\¬b=g1/\¬g1=B/\¬B=g1)/\g1<w1.heap.size/\b<w1/\B<w1.heap.size:=by
 have I:(ks++[z])[n]? =some z:=by rw[List.getElem?_append_right (by omega),hn];simp
 obtain⟨g1,off1,rfl,D⟩:=hr.addr I;have J:=hk.size;simp at J;have F:∀g,g<wr.heap.size->(∀g',(Value.slice a n cap).ownBlock=some g'->g'≠g)->g1≠g:=fun g hg E e=>by
  rcases hf g1 rfl with h|h
  .exact E _ h e
  .simp at h;omega
 have H:=F b hb (fun g' h=>(nb g' h).1);have G:=F B hB (fun g' h=>(nb g' h).2);have c:=fun(j:Nat) (hj:j<4)=>hr.cell I (j:=j) hj;have M:=c 0 (by decide);have E:=c 1 (by decide);have L:=c 2 (by decide);have K:=c 3 (by decide);have C:∀g o,g<wr.heap.size->(∀g',(Value.slice a n cap).ownBlock=some g'->g'≠g)->w1.cell? ⟨g,o,none⟩=wr.cell? ⟨g,o,none⟩:=fun g o hg h=>by
  rw[hk.cell (p:=⟨g,o,none⟩) (by simp;omega) (fun e=>h g e rfl)];exact znt (w:=wr) (zne _ _ _ hg)
 have A:∀g o,g<wr.heap.size->(∀g',(Value.slice a n cap).ownBlock=some g'->g'≠g)->w1.frozen? ⟨g,o,none⟩=wr.frozen? ⟨g,o,none⟩:=fun g o hg h=>by
  rw[hk.frozen (p:=⟨g,o,none⟩) (by simp;omega) (fun e=>h g e rfl)];exact znu (w:=wr) (zne _ _ _ hg)
 refine⟨g1,off1,rfl,⟨M,by rw[zmm];exact E,by rw[zmm];exact L,by rw[zmm];exact K⟩,fun o=>hr.frozen o,fun o=>C b o hb (fun g' h=>(nb g' h).1),fun o=>A b o hb (fun g' h=>(nb g' h).1),fun o=>C B o hB (fun g' h=>(nb g' h).2),⟨H,fun e=>H e.symm,G,fun e=>G e.symm⟩,D,by omega,by omega⟩
theorem yaQ {W:World}{g b o p:Nat}{x y:Value}(h:¬g=b):(W.setCell ⟨b,o,none⟩ x).setCell ⟨g,p,none⟩ y=(W.setCell ⟨g,p,none⟩ y).setCell ⟨b,o,none⟩ x:=by
 simp only[World.setCell]
 congr 1
 refine Array.ext_getElem? fun i=> ?_;simp only[zni];by_cases h1:b=i
 .subst h1
  simp[h]
 .by_cases h2:g=i
  .subst h2
   simp[h1]
  .simp[h1,h2]
theorem yi0 {Z:Nat->Prop}{wr w1:World}{b n a0 g1 off1 cp cap:Nat}{a:Option Addr}{v:RV}{st:RSt}{x:Val}{c z:VC}{ks:List VC}{X:Obj}(R:RX Z wr b v st)(hv:v.vk= .slice a n cap)(hn:ks.length=n)(hcl:ks.length=st.consts.length)(hce:∀(i:Nat) (c:VC) (x:Val),ks[i]? =some c->st.consts[i]? =some x->CF (fun j=>¬RO v b j/\Z j) wr c x)
  (C:CF (fun j=>¬RO v b j/\Z j) wr c x)(hr:RowAt w1 38 (.slice (some ⟨g1,off1,none⟩) (n+1) cp) (ks++[z]))(hk:Keeps (fun j=>(Value.slice a n cap).ownBlock=some j) (wr.drew.alloc X) w1)
  (hf:∀g,(Value.slice (some ⟨g1,off1,none⟩) (n+1) cp).ownBlock=some g->(Value.slice a n cap).ownBlock=some g\/(wr.drew.alloc X).heap.size<=g)(ha:a0=n):
  RX Z (((((w1.setCell ⟨g1,off1+a0*4,none⟩ (.int .i64 c.kind)).setCell ⟨g1,off1+a0*4+1,none⟩ (.int .i64 c.n)).setCell ⟨g1,off1+a0*4+2,none⟩ (.string c.s)).setCell ⟨g1,off1+a0*4+3,none⟩ (.slice c.la c.ln c.lc)).setCell ⟨b,1,none⟩ (.slice (some ⟨g1,off1,none⟩) (n+1) cp)) b {v with vk:=.slice (some ⟨g1,off1,none⟩) (n+1) cp} {st with consts:=st.consts++[x]}/\
  RK b v wr {v with vk:=.slice (some ⟨g1,off1,none⟩) (n+1) cp} (((((w1.setCell ⟨g1,off1+a0*4,none⟩ (.int .i64 c.kind)).setCell ⟨g1,off1+a0*4+1,none⟩ (.int .i64 c.n)).setCell ⟨g1,off1+a0*4+2,none⟩ (.string c.s)).setCell ⟨g1,off1+a0*4+3,none⟩ (.slice c.la c.ln c.lc)).setCell ⟨b,1,none⟩ (.slice (some ⟨g1,off1,none⟩) (n+1) cp)):=by
 subst ha;have G:Below wr wr (wr.drew.alloc X):=((znv _ _).drew).alloc (znc _) _;have J:Keeps (fun _=>False) wr (wr.drew.alloc X):=zkb G;have M:=R.ext G;have H:=hr.set (i:=a0) (by simp;omega) c;have L:(ks++[z]).set a0 c=ks++[c]:=by
  rw[List.set_append_right _ _ (by omega),show a0 - ks.length=0 from by omega];rfl
 rw[L]at H;have E:RowAt ((((w1.setCell ⟨g1,off1+a0*4,none⟩ (.int .i64 c.kind)).setCell ⟨g1,off1+a0*4+1,none⟩ (.int .i64 c.n)).setCell ⟨g1,off1+a0*4+2,none⟩ (.string c.s)).setCell ⟨g1,off1+a0*4+3,none⟩ (.slice c.la c.ln c.lc)) 38 (.slice (some ⟨g1,off1,none⟩) (a0+1) cp) (ks++[c]):=H;have K:(fun j=>(Value.slice a a0 cap).ownBlock=some j)=(fun j=>v.vk.ownBlock=some j):=by rw[hv]
 have A:∀g,(Value.slice (some ⟨g1,off1,none⟩) (a0+1) cp).ownBlock=some g->v.vk.ownBlock=some g\/(wr.drew.alloc X).heap.size<=g:=by rw[hv];exact hf
 have D:(Value.slice a a0 cap).ownBlock=some g1\/(wr.drew.alloc X).heap.size<=g1:=hf g1 rfl;have I:Keeps (fun j=>v.vk.ownBlock=some j) (wr.drew.alloc X) ((((w1.setCell ⟨g1,off1+a0*4,none⟩ (.int .i64 c.kind)).setCell ⟨g1,off1+a0*4+1,none⟩ (.int .i64 c.n)).setCell ⟨g1,off1+a0*4+2,none⟩ (.string c.s)).setCell ⟨g1,off1+a0*4+3,none⟩ (.slice c.la c.ln c.lc)):=by
  rw[K]at hk;rw[hv]at hk|-;exact(((hk.setCell (p:=⟨g1,off1+a0*4,none⟩) D _).setCell (p:=⟨g1,off1+a0*4+1,none⟩) D _).setCell (p:=⟨g1,off1+a0*4+2,none⟩) D _).setCell (p:=⟨g1,off1+a0*4+3,none⟩) D _
 have V:VRow (fun j=>(¬RO v b j/\Z j)/\¬(Value.slice (some ⟨g1,off1,none⟩) (a0+1) cp).ownBlock=some j) ((((w1.setCell ⟨g1,off1+a0*4,none⟩ (.int .i64 c.kind)).setCell ⟨g1,off1+a0*4+1,none⟩ (.int .i64 c.n)).setCell ⟨g1,off1+a0*4+2,none⟩ (.string c.s)).setCell ⟨g1,off1+a0*4+3,none⟩ (.slice c.la c.ln c.lc)) 38 (.slice (some ⟨g1,off1,none⟩) (a0+1) cp) (st.consts++[x]):=by
  refine VRow.app (F:=fun j=>(¬RO v b j/\Z j)/\j<wr) (w:=wr.drew.alloc X) (v:=v.vk) hcl (fun i c x B h2=>((hce i c x B h2).mono (fun g h l=>⟨h,l⟩)).keep J (fun _ _ f=>f)) ((C.mono (fun g h l=>⟨h,l⟩)).keep J (fun _ _ f=>f)) E I (fun g h e=>h.1.1 (.inr (.inr (.inr (.inl e))))) (fun g h _=>⟨h.1,fun e=> ?_⟩);rcases A g e with B|B
  .exact h.1.1 (.inr (.inr (.inr (.inl B))))
  .have:=h.2;simp at B;omega
 have S:=M.setConsts V I A;exact⟨S.1,(RK.ext G).trans S.2⟩
def yqo (W:World)(x:Val)(l:List Val)(gk:Nat)(v12:Value)(wr:World):Prop:=
 ∃i:Nat,v12= .int .i64 i/\i<=l.length/\gk=l.length - i/\yiT x (l.drop i) i=yiT x l 0/\Below W W wr
theorem yi1 {Z:Nat->Prop}(b:Nat)(v:RV)(st:RSt)(x:Val)(ck cn:Int)(cs:ByteArray)(la:Option Addr)(ln lc:Nat)(W:World)(R:RX Z W b v st)(C:CF (fun j=>¬RO v b j/\Z j) W ⟨ck,cn,cs,la,ln,lc⟩ x)(hl:st.consts.length<=4294967296)(i0:Nat)(l':List Val)(hr:yfQ x st.consts=(i0,l')):
  Calls Tryz.prog 129 #[.pointer (some ⟨b,0,none⟩),.agg #[ck,cn,cs,.slice la ln lc]] W (ypI Z W b v (.int .i64 i0) {st with consts:=l'}):=by
 obtain⟨vc,vk,vn,vj,pl,mb⟩:=v;obtain⟨a,cap,rfl⟩:∃a cap,vk= .slice a st.consts.length cap:=R.consts.slice;have b0:=zlt R.h;have c1:=zca R.h 1 rfl;have f0:∀o,W.frozen? ⟨b,o,none⟩=false:=fun o=>zfr R.h o;have el:=(R.consts.vf (G:=fun _=>True) (fun _ _=>trivial) (fun _ _=>trivial)).elems.2.2;unfold yfQ at hr;have L:=zh4 R hr el C;clear R hr el C;go_in;go_wp2_with fail;obtain⟨H,E⟩:∃H,H=W.alloc (.cells #[ck,cn,cs,.slice la ln lc] 38):=⟨_,rfl⟩;have B0:=zba E;have q:∀o,H.cell? ⟨W,o,none⟩=(#[.int .i64 ck,.int .i64 cn,.string cs,.slice la ln lc]:Array Value)[o]? :=fun o=>by rw[E,zch (znb _ _)]
 have Y:H.heap.size=W.heap.size+1:=by rw[E];simp
 rw[<-E];have F:=zh3 B0 q Y;clear E B0 q Y c1 f0;go_loopg [12] (st.consts.length) (fun gk v12 wr=>yqo H x st.consts gk v12 wr)
 case atStart=>exact⟨0,rfl,znq _,rfl,rfl,znv _ _⟩
 case round=>
  obtain⟨i,rfl,hi,Q,M,K⟩:=hrel;have q0:=(K.cell (p:=⟨W,0,none⟩) (show W<H.heap.size by have:=F.o.2.2;omega)).trans (F.o.2.1 0);have q1:=(K.cell (p:=⟨W,1,none⟩) (show W<H.heap.size by have:=F.o.2.2;omega)).trans (F.o.2.1 1);have q2:=(K.cell (p:=⟨W,2,none⟩) (show W<H.heap.size by have:=F.o.2.2;omega)).trans (F.o.2.1 2);have q3:=(K.cell (p:=⟨W,3,none⟩) (show W<H.heap.size by have:=F.o.2.2;omega)).trans (F.o.2.1 3);simp only[zmc,zma,zmb]at q0 q1 q2 q3;have Ad:=K.size;have lr:W<wr.heap.size:=by have:=F.o.2.2;omega
  have N:=F.o.1.trans (K.mono (show W<=H.heap.size by have:=F.o.2.2;omega));by_cases hin:i<st.consts.length
  .obtain⟨y,hy⟩:=yac hin
   have z:st.consts.drop i=y::st.consts.drop (i+1):=by
    rw[znr (zge hy).1,(zge hy).2]
   rw[z,yiT]at M;obtain⟨g,Ag,ha,_,V,t⟩:=L.o.2.2.1.resolve_left (fun e=>by rw[e]at hin;simp at hin);obtain⟨d,hD,m0,m1,m2,m3⟩:=t i y hy;subst ha;have Aj:g<wr:=by omega
   rw[<-N.cell (p:=⟨g,_,none⟩) V]at m0 m1 m2 m3;have Af:(i:Int)<st.consts.length:=by omega
   have K1:Keeps (fun _=>False) W (wr.alloc (.cells #[d.kind,d.n,d.s,.slice d.la d.ln d.lc] 38)):=(zkb N).alloc _;have SA:=zhd (fun bb hb=>yfs x y ⟨ck,cn,cs,la,ln,lc⟩ d _ _ _ (L.o.2.2.2.keep K1 (fun _ _ f=>f)) (hD.keep K1 (fun _ _ f=>f)) bb hb);cases hq:(cmpV x y==0)
   all_goals
    rw[hq]at M;simp only[znm,znl]at M;have D:=zh4 M Q K N;have SB:=zhd (SA.o _ hq);clear M Q hq z hy K N t hD K1 SA;go_wp2_with fail;refine SB.o.mono ?_;rintro e w5 ⟨rfl,Ac⟩;have H5:=zhd (show Below wr wr w5 from(zal).trans (Ac.mono (by simp)));clear Ac SB;go_wp2_with fail
   .go_roundg (st.consts.length - (i+1))
    case measure=>have:=D.o.2.1;omega
    case rel=>exact⟨i+1,by simp,by omega,rfl,D.o.1,D.o.2.2.1.trans (H5.o.mono Ad)⟩
   .have hr:=L.o.2.1
    rw[<-D.o.1]at hr;cases hr;have BE:=D.o.2.2.2.trans (H5.o.mono (zmn lr));go_ret;exact⟨_,rfl,zhd ⟨L.o.1.ext BE,RK.ext BE⟩⟩
  .obtain rfl:i=st.consts.length:=by omega
   rw[zns (znc _),yiT]at M;have hr:=L.o.2.1;rw[<-M]at hr;cases hr;have D:=zh3 (L.o.1.ext N) N (L.o.2.2.2.keep (zkb (S:=fun _=>False) N) (fun _ _ f=>f));have c1:=zca D.o.1.h 1 rfl;have f0:∀o,wr.frozen? ⟨b,o,none⟩=false:=fun o=>zfr D.o.1.h o;have b1:b<wr:=zlt D.o.1.h;have Ae:=zhd (show∀g,(Value.slice a st.consts.length cap).ownBlock=some g->g<W.heap.size from fun g V=>L.o.1.lt (.inr (.inr (.inr (.inl V)))));clear L M Q K N;obtain⟨ks,hR,Aa,Ab⟩:=D.o.1.consts;have X:=zh3 hR Aa Ab;clear hR Aa Ab;have nb:∀g,(Value.slice a st.consts.length cap).ownBlock=some g->g≠b/\g≠W.heap.size:=fun g V=>⟨(D.o.1.sep.k g V).1,fun e=>by have:=Ae.o g V;omega⟩;have Ah:(st.consts.length:Int)<(st.consts.length:Int)+1:=by omega
   have Ai:(0:Int)<=(st.consts.length:Int):=by omega
   have NB:=zhd nb;have n6:¬W.heap.size=b:=by have:=zlt D.o.1.h;have:=D.o.2.1.size;omega
   have U:=zhd (show(ks.length+[(⟨0,0,⟨#[]⟩,none,0,0⟩:VC)].length)*56<=140737488355328/\ks.length+[(⟨0,0,⟨#[]⟩,none,0,0⟩:VC)].length<=maxLen/\ks.length+[(⟨0,0,⟨#[]⟩,none,0,0⟩:VC)].length=st.consts.length+1 from by have:=X.o.2.1;unfold maxLen;simp;omega);clear nb;go_wp2_with fail;go_region_law ((refine yaz (α:=VC) (o:=⟨some 29,_,_,_,_,_⟩) yfJ (by rfl) (.tmp 25) (.tmp 28) (by rfl) (v:=.slice a st.consts.length cap) (u:=.slice (some ⟨wr,0,none⟩) 1 1) (by rfl) (by rfl) (xs:=ks) (ys:=[⟨0,0,⟨#[]⟩,none,0,0⟩]) ((X.o.1.drew).alloc _) (RowAt.lit (α:=VC) (y:=⟨0,0,⟨#[]⟩,none,0,0⟩) (znb _ _)) U.o.1 U.o.2.1 (st.consts.length+1) U.o.2.2 ?_;intro a1 cp w1 O P T;obtain⟨I,A,rfl,⟨m0,m1,m2,m3⟩,fm,ob,l,m,⟨n1,n2,n3,n4⟩,l1,l2,l3⟩:=ygN (b:=b) (B:=W.heap.size) X.o.2.1 O P T b1 lr NB.o;have y1:=(ob 1).trans c1;have y2:=(m 0).trans q0;have y3:=(m 1).trans q1;have y4:=(m 2).trans q2;have y5:=(m 3).trans q3;have y6:=fun o=>(l o).trans (f0 o);have FF:=zh3 O P T;clear O P T ob l m))
   all_goals
    obtain⟨w4,J⟩:∃w4,w4=((((w1.setCell ⟨I,A+st.consts.length*4,none⟩ (.int .i64 ck)).setCell ⟨I,A+st.consts.length*4+1,none⟩ (.int .i64 cn)).setCell ⟨I,A+st.consts.length*4+2,none⟩ (.string cs)).setCell ⟨I,A+st.consts.length*4+3,none⟩ (.slice la ln lc)).setCell ⟨b,1,none⟩ (.slice (some ⟨I,A,none⟩) (st.consts.length+1) cp):=⟨_,rfl⟩;have r:w4=((((w1.setCell ⟨b,1,none⟩ (.slice (some ⟨I,A,none⟩) (st.consts.length+1) cp)).setCell ⟨I,A+st.consts.length*4,none⟩ (.int .i64 ck)).setCell ⟨I,A+st.consts.length*4+1,none⟩ (.int .i64 cn)).setCell ⟨I,A+st.consts.length*4+2,none⟩ (.string cs)).setCell ⟨I,A+st.consts.length*4+3,none⟩ (.slice la ln lc):=by rw[J,yaQ n1,yaQ n1,yaQ n1,yaQ n1]
    first
    |rw[<-J]
    |rw[<-r]
    have S:=yi0 (c:=⟨ck,cn,cs,la,ln,lc⟩) (x:=x) D.o.1 rfl X.o.2.1 X.o.2.1 X.o.2.2 D.o.2.2 FF.o.1 FF.o.2.1 FF.o.2.2 rfl;rw[<-J]at S;have HS:=zhd S;have d1:=zca S.1.h 1 rfl;have Ak:b<w4:=zlt S.1.h;clear S J r y1 y2 y3 y4 y5 y6 m0 m1 m2 m3 fm c1 f0 q0 q1 q2 q3;go_wp2;go_ret;exact⟨_,rfl,zhd ⟨HS.o.1,(RK.ext D.o.2.1).trans HS.o.2⟩⟩
def operL (kind line:Int)(s:ByteArray)(st:RSt):Int×Int×RSt:=
 if kind=1 then(if(yc4 s.data.toList).2≠0 then(0,(yc4 s.data.toList).2,st)else((yfQ (yc4 s.data.toList).1 st.consts).1,0,{st with consts:=(yfQ (yc4 s.data.toList).1 st.consts).2}))else
 if kind=2 then(match ym5 s.data.toList with
  |none=>(0,8,st)
  |some n=>((yoH n st.names).1,0,{st with names:=(yoH n st.names).2}))else
 if kind=4 then(if yp0 s.data.toList=true then(0,0,{st with jumps:=st.jumps++[⟨st.code.length,line,s⟩]})else(0,8,st))else
 match yne s.data.toList with
 |none=>(0,8,st)
 |some n=>(n,0,if kind=3 then{st with places:=max st.places (n+1)}else st)
def yoT (Z:Nat->Prop)(W:World)(b:Nat)(v:RV)(r:Int×Int×RSt)(e:Ending)(w':World):Prop:=∃v',e= .returned (.tuple #[.int .i64 r.1,.int .i64 r.2.1])/\Hid (RX Z w' b v' r.2.2/\RK b v W v' w')
end Go.Proofs.YtpagmlndgblhhaaGreatDoor
namespace Go.Va
open Go.Own Go.RowKit Go.Own.MapTy
def yjV (s:ByteArray):ByteArray:=⟨(Lib.trimSuffix s.data.toList [58]).toArray⟩
def ykJ (s:ByteArray):Bool:=Lib.hasSuffix s.data.toList [58]&&yp0 (yjV s).data.toList
def ygP (s:ByteArray):ByteArray:=⟨(Lib.cut (Lib.trimPrefix s.data.toList [32,32]) [32]).1.toArray⟩
def yda (s:ByteArray):ByteArray:=⟨(Lib.cut (Lib.trimPrefix s.data.toList [32,32]) [32]).2.1.toArray⟩
def ylt (s:ByteArray):Bool:=(Lib.cut (Lib.trimPrefix s.data.toList [32,32]) [32]).2.2
end Go.Va
namespace Go.Proofs.YtpagmlndgblhhaaGreatDoor
open Go.RowKit Go.Own Go.Own.MapTy Go.Va Go.Sort
open Go.Own.Cells (sz enc)
def lineL (n:Int)(s:ByteArray)(st:RSt):Int×RSt:=
 if ykJ s=true then(if(MapTy.get st.labels (yjV s)).isSome=true then(5,st)else(0,{st with labels:=upd st.labels (yjV s) st.code.length}))else
 if Lib.hasPrefix s.data.toList [32,32]=false then(8,st)else
 match yeW (ygP s)with
 |none=>(110,st)
 |some op=>
  if ylt s≠((ofL op).1.operand !=0)then(8,st)else
  if ylt s=true then(if(operL (ofL op).1.operand n (yda s) st).2.1≠0 then((operL (ofL op).1.operand n (yda s) st).2.1,(operL (ofL op).1.operand n (yda s) st).2.2)else
   (0,{(operL (ofL op).1.operand n (yda s) st).2.2 with code:=(operL (ofL op).1.operand n (yda s) st).2.2.code++[⟨op,(operL (ofL op).1.operand n (yda s) st).1⟩]}))else
  (0,{st with code:=st.code++[⟨op,0⟩]})
theorem yp4 (x y:ByteArray):(x==y)=decide (x=y):=by
 show(x.data==y.data)=decide (x=y);rw[Bool.eq_iff_iff];simp[ByteArray.ext_iff]
theorem yoB (n:Nat)(em:Bool)(W:World)(x:ByteArray):(Instr.checkKey em (n+1) 9 (.string x)).run Tryz.prog W= .ok () W:=by simp[Instr.checkKey,go_sem]
theorem yp8:KLaw SM Tryz.prog 9:=KLaw.of_now Tryz.underlying9 (fun W em x=>yoB 9999 em W x) (fun x y=>by simp[SM,Instr.sameNow];exact yp4 x y) (fun x=>by simp[SM,Instr.sameBits];exact(yp4 x x).trans (by simp))
theorem yl3 {w:World}{b:Nat}{m:List (ByteArray×Int)}(h:MapAt SM w b m)(x:ByteArray):∀W:World,ydY w b W->(Instr.lookup 94 (.map (some b)) (.string x) true).run Tryz.prog W= .ok (.tuple #[.int .i64 ((MapTy.get m x).getD 0),(MapTy.get m x).isSome]) W:=by
 intro W A;have:=h.lookS yp8 Tryz.underlying94 (z:=.int .i64 0) (fun W=>by kernel_rfl) x true W A;cases hg:MapTy.get m x with
 |none=>rw[hg]at this;exact this
 |some n=>rw[hg]at this;exact this
def ynP (Z:Nat->Prop)(W:World)(b:Nat)(v:RV)(r:Int×RSt)(e:Ending)(w':World):Prop:=∃v',e= .returned (.int .i64 r.1)/\Hid (RX Z w' b v' r.2/\RK b v W v' w')
theorem ynD:ElemOf In Tryz.prog 24 106 16:=ycl Tryz.underlying24 (z:=.agg #[.int .i64 0,.int .i64 0]) (n:=2) (by kernel_rfl) rfl rfl
theorem yhG (s:ByteArray):(yda s).size<=s.size/\(ygP s).size<=s.size/\(Lib.trimPrefix s.data.toList [32,32]).length<=s.size:=by
 have C:(Lib.trimPrefix s.data.toList [32,32]).length<=s.size:=by
  unfold Lib.trimPrefix;split
  .simp
  .simp
 have B:(yda s).size=(Lib.cut (Lib.trimPrefix s.data.toList [32,32]) [32]).2.1.length:=by show(Lib.cut (Lib.trimPrefix s.data.toList [32,32]) [32]).2.1.toArray.size=_;simp
 have A:(ygP s).size=(Lib.cut (Lib.trimPrefix s.data.toList [32,32]) [32]).1.length:=by show(Lib.cut (Lib.trimPrefix s.data.toList [32,32]) [32]).1.toArray.size=_;simp
 rw[B,A];unfold Lib.cut;split
 .simp;omega
 .simp;omega
theorem yjd (kind line:Int)(s:ByteArray)(st:RSt):(operL kind line s st).2.2.code=st.code:=by
 unfold operL;split
 .split<;>rfl
 .split
  .split<;>rfl
  .split
   .split<;>rfl
   .split
    .rfl
    .dsimp only
     split<;>rfl
end Go.Proofs.YtpagmlndgblhhaaGreatDoor
