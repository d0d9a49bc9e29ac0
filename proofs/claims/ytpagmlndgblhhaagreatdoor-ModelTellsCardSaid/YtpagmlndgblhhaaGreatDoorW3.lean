/- Parts of the proof: what the functions and the plain laws give that later parts lean on. Conditions: none beyond those that each theorem names. -/
import Derived.Test.YtpagmlndgblhhaaGreatDoorW2
set_option maxRecDepth 100000
set_option maxHeartbeats 8000000
namespace Go.Va
open Go.Own Go.RowKit
def yai:Val->List UInt8
 | .mk k n s l=>UInt8.ofNat (k%256).toNat::(bif k==1 then ycg (zigL n)else bif k==2 then Go.Va.textB s.data.toList else bif k==3 then ycg l.length++bytesL l else[])
where bytesL:List Val->List UInt8
 |[]=>[]
 |x::r=>yai x++bytesL r
theorem yaZ (x:Val):yai x=UInt8.ofNat (x.kind%256).toNat::(bif x.kind==1 then ycg (zigL x.num)else bif x.kind==2 then Go.Va.textB x.txt.data.toList else bif x.kind==3 then ycg x.list.length++yai.bytesL x.list else[]):=by
 cases x;rw[yai];rfl
theorem ybs (x:Val)(r:List Val):yai.bytesL (x::r)=yai x++yai.bytesL r:=by rw[yai.bytesL]
theorem ydp:yai.bytesL []=[]:=by rw[yai.bytesL]
theorem yfl {x:Val}:∀{l:List Val},x∈l->(yai x).length<=(yai.bytesL l).length
 |[],h=>by cases h
 |y::r,h=>by
  rw[ybs,znk];rcases List.mem_cons.1 h with rfl|h
  .omega
  .have:=yfl h;omega
def Val.wf:Val->Prop
 | .mk k n s l=>(-9223372036854775808<=k/\k<=9223372036854775807)/\(-9223372036854775808<=n/\n<=9223372036854775807)/\s.size<=140737488355328/\wfL l
where wfL:List Val->Prop
 |[]=>True
 |x::r=>x.wf/\wfL r
theorem Val.wf_eq (x:Val):x.wf↔(-9223372036854775808<=x.kind/\x.kind<=9223372036854775807)/\(-9223372036854775808<=x.num/\x.num<=9223372036854775807)/\x.txt.size<=140737488355328/\Val.wf.wfL x.list:=by
 cases x;rw[Val.wf];rfl
theorem Val.wfL_mem {x:Val}:∀{l:List Val},Val.wf.wfL l->x∈l->x.wf
 |[],_,h=>by cases h
 |y::r,hw,h=>by
  rw[Val.wf.wfL]at hw;rcases List.mem_cons.1 h with rfl|h
  .exact hw.1
  .exact Val.wfL_mem hw.2 h
theorem Val.wfL_iff:∀{l:List Val},Val.wf.wfL l↔∀x∈l,x.wf
 |[]=>by rw[Val.wf.wfL];simp
 |y::r=>by rw[Val.wf.wfL,Val.wfL_iff];simp
end Go.Va
namespace Go.Proofs.YtpagmlndgblhhaaGreatDoor
open Go.RowKit Go.Own Go.Own.MapTy Go.Va Go.Sort
open Go.Own.Cells (sz enc)
theorem yaM {W:World}{b j:Nat}(hb:b<W)(o:Obj):yce (W.alloc o) b j↔yce W b j:=by
 unfold yce;rw[zne _ _ _ hb]
theorem ygV (x:Val)
  (b:Nat)(l:List UInt8)(ck cn:Int)(cs:ByteArray)(la:Option Addr)(ln lc:Nat)(F:Nat->Prop)(w:World)(H:WB w b l)(C:CF F w ⟨ck,cn,cs,la,ln,lc⟩ x)(hF:∀j,F j->j≠b/\¬yce w b j)(hw:x.wf)(hl:l.length+(yai x).length+12<=1099511627776)(r:List UInt8)(hr:yai x=r)
  (k1:(ck==1)=false)(k2:(ck==2)=false)(k3:(ck==3)=false):
  Calls Tryz.prog 60 #[.pointer (some ⟨b,0,none⟩),.agg #[ck,cn,cs,.slice la ln lc]] w (WPB w b (l++r))
  :=by
 have W:=H.lt;have I:ck=x.kind:=C.kind;have L:cn=x.num:=C.n;have K:cs=x.txt:=C.s;have E:=(Val.wf_eq x).1 hw;have B:=hr;rw[yaZ]at hr;rw[B]at hl;have c:=zh4 C E B hF;clear C E B hw hF;obtain⟨y,J⟩:∃y,y=UInt8.ofNat (x.kind%256).toNat:=⟨_,rfl⟩;rw[<-J]at hr;have D:((ck%256):Int)=(y.toNat:Int):=by
  have h:(x.kind%256).toNat<256:=by omega
  rw[J,UInt8.toNat_ofNat_of_lt' (by exact h)];omega
 have Y:=zhd D;clear J D;rw[<-I,k1,k2,k3]at hr;simp only[znl]at hr;have Z:=zhd hr;clear hr I L K;have O:=H.alloc (.cells #[ck,cn,cs,.slice la ln lc] 38);have N:=O.1.alloc (.cells #[.int .u8 (ck%256)] 5);have G:∀j,yce ((w.alloc (.cells #[ck,cn,cs,.slice la ln lc] 38)).alloc (.cells #[.int .u8 (ck%256)] 5)) b j->j<w.heap.size:=fun j hj=>(H.row ((yaM W _).1 ((yaM (by simp;omega) _).1 hj))).2;have Q:=zhd (show Calls Tryz.prog 105 #[.pointer (some ⟨b,0,none⟩),.slice (some ⟨w.heap.size+1,0,none⟩) 1 1] _ (WPB _ b (l++[y]))from ydL b l [y] (w.heap.size+1) 1 _ N.1 (fun j u hu=>by
  rw[zch yat];cases j with
  |zero=>rw[Y.o];simpa[ydF]using hu
  |succ j=>simp at hu) (by simp;omega))
 have M:=zh3 O.2 N.2 G;clear O N G;have a:=zhd H;clear H;go_in;go_wp2_with fail;refine Q.o.mono ?_;rintro e P ⟨rfl,A⟩;have q:∀o,P.cell? ⟨w,o,none⟩=(#[.int .i64 ck,.int .i64 cn,.string cs,.slice la ln lc]:Array Value)[o]? :=fun o=>by
  rw[A.o.2.cell (by simp;omega) (by omega) (fun h=>by have:=M.o.2.2 _ h;omega),zch yaD]
 have V:=q 0;have U:=q 1;have T:=q 2;have S:=q 3;simp only[zmc,zma,zmb]at V U T S;have X:=zhd ((M.o.1.trans M.o.2.1).trans A.o.2);have R:w.heap.size+1<P.heap.size:=by have:=A.o.2.1.size;simp at this;omega
 clear q Q;go_wp2_with fail
 go_end0
 exact⟨rfl,zhd ⟨by rw[<-Z.o];exact A.o.1,X.o⟩⟩
theorem yjK (x:Val)
  (b:Nat)(l:List UInt8)(ck cn:Int)(cs:ByteArray)(la:Option Addr)(ln lc:Nat)(F:Nat->Prop)(w:World)(H:WB w b l)(C:CF F w ⟨ck,cn,cs,la,ln,lc⟩ x)(hF:∀j,F j->j≠b/\¬yce w b j)(hw:x.wf)(hl:l.length+(yai x).length+12<=1099511627776)(r:List UInt8)(hr:yai x=r)
  (k1:ck=1):
  Calls Tryz.prog 60 #[.pointer (some ⟨b,0,none⟩),.agg #[ck,cn,cs,.slice la ln lc]] w (WPB w b (l++r))
  :=by
 subst k1;have a:=H.lt;have J:1=x.kind:=C.kind;have I:cn=x.num:=C.n;have N:cs=x.txt:=C.s;have E:=(Val.wf_eq x).1 hw;have B:=hr;rw[yaZ]at hr;rw[B]at hl;have f:=zh4 C E B hF;clear C E B hw hF;obtain⟨y,M⟩:∃y,y=UInt8.ofNat (x.kind%256).toNat:=⟨_,rfl⟩;rw[<-M]at hr;have D:(1:Int)=(y.toNat:Int):=by
  have h:(x.kind%256).toNat<256:=by omega
  rw[M,UInt8.toNat_ofNat_of_lt' (by exact h)];omega
 have d:=zhd D;clear M D;rw[<-J]at hr;simp only[beq_self_eq_true,znm]at hr;have O:=zhd hr;have K:=f.o.2.1.2.1;rw[<-I]at K hr;have O:=zhd hr;clear hr J I N;have R:=H.alloc (.cells #[.int .i64 1,cn,cs,.slice la ln lc] 38);have Q:=R.1.alloc (.cells #[.int .u8 1] 5);have G:∀j,yce ((w.alloc (.cells #[.int .i64 1,cn,cs,.slice la ln lc] 38)).alloc (.cells #[.int .u8 1] 5)) b j->j<w.heap.size:=fun j hj=>(H.row ((yaM a _).1 ((yaM (by simp;omega) _).1 hj))).2;have U:=zhd (show Calls Tryz.prog 105 #[.pointer (some ⟨b,0,none⟩),.slice (some ⟨w.heap.size+1,0,none⟩) 1 1] _ (WPB _ b (l++[y]))from ydL b l [y] (w.heap.size+1) 1 _ Q.1 (fun j u hu=>by
  rw[zch yat];cases j with
  |zero=>rw[d.o];simpa[ydF]using hu
  |succ j=>simp at hu) (by simp;omega))
 have P:=zh3 R.2 Q.2 G;clear R Q G;have m:=zhd H;clear H;go_in;go_wp2_with fail;refine U.o.mono ?_;rintro e L ⟨rfl,A⟩;have q:∀o,L.cell? ⟨w,o,none⟩=(#[.int .i64 1,.int .i64 cn,.string cs,.slice la ln lc]:Array Value)[o]? :=fun o=>by
  rw[A.o.2.cell (by simp;omega) (by omega) (fun h=>by have:=P.o.2.2 _ h;omega),zch yaD]
 have Z:=q 0;have Y:=q 1;have X:=q 2;have W:=q 3;simp only[zmc,zma,zmb]at Z Y X W;have c:=zhd ((P.o.1.trans P.o.2.1).trans A.o.2);have V:w.heap.size+1<L.heap.size:=by have:=A.o.2.1.size;simp at this;omega
 clear q U;have k:=A.o.1.lt;have S:=A.o.1.alloc (.cells #[cn] 2);have g:=zhd (ynv b (l++[y]) cn L.heap.size 1 _ S.1 (by rw[zch (znb _ _)];rfl) K.1 K.2 (by have h:=congrArg List.length O.o;simp at h|-;omega));clear K;go_wp2_with fail;refine g.o.mono ?_;rintro e i ⟨rfl,T⟩;go_wp2_with fail
 go_end0
 refine⟨rfl,zhd ⟨?_,(c.o.trans S.2).trans T.o.2⟩⟩;rw[<-O.o];have:=T.o.1;rw[List.append_assoc]at this;exact this
theorem yiM (x:Val)
  (b:Nat)(l:List UInt8)(ck cn:Int)(cs:ByteArray)(la:Option Addr)(ln lc:Nat)(F:Nat->Prop)(w:World)(H:WB w b l)(C:CF F w ⟨ck,cn,cs,la,ln,lc⟩ x)(hF:∀j,F j->j≠b/\¬yce w b j)(hw:x.wf)(hl:l.length+(yai x).length+12<=1099511627776)(r:List UInt8)(hr:yai x=r)
  (k1:ck=2):
  Calls Tryz.prog 60 #[.pointer (some ⟨b,0,none⟩),.agg #[ck,cn,cs,.slice la ln lc]] w (WPB w b (l++r))
  :=by
 subst k1;have Z:=H.lt;have J:2=x.kind:=C.kind;have L:cn=x.num:=C.n;have I:cs=x.txt:=C.s;have E:=(Val.wf_eq x).1 hw;have B:=hr;rw[yaZ]at hr;rw[B]at hl;have k:=zh4 C E B hF;clear C E B hw hF;obtain⟨y,K⟩:∃y,y=UInt8.ofNat (x.kind%256).toNat:=⟨_,rfl⟩;rw[<-K]at hr;have D:(2:Int)=(y.toNat:Int):=by
  have h:(x.kind%256).toNat<256:=by omega
  rw[K,UInt8.toNat_ofNat_of_lt' (by exact h)];omega
 have c:=zhd D;clear K D;rw[<-J,<-I]at hr;have Q:((2:Int)==1)=false:=rfl;rw[Q]at hr;simp only[beq_self_eq_true,znm,znl]at hr;have d:=zhd hr;have Y:l.length+1+cs.size+12<=1099511627776:=by
  have h:=congrArg List.length hr;simp[Go.Va.textB]at h;omega
 clear hr J L I Q;have O:=H.alloc (.cells #[.int .i64 2,cn,cs,.slice la ln lc] 38);have N:=O.1.alloc (.cells #[.int .u8 2] 5);have G:∀j,yce ((w.alloc (.cells #[.int .i64 2,cn,cs,.slice la ln lc] 38)).alloc (.cells #[.int .u8 2] 5)) b j->j<w.heap.size:=fun j hj=>(H.row ((yaM Z _).1 ((yaM (by simp;omega) _).1 hj))).2;have S:=zhd (show Calls Tryz.prog 105 #[.pointer (some ⟨b,0,none⟩),.slice (some ⟨w.heap.size+1,0,none⟩) 1 1] _ (WPB _ b (l++[y]))from ydL b l [y] (w.heap.size+1) 1 _ N.1 (fun j u hu=>by
  rw[zch yat];cases j with
  |zero=>rw[c.o];simpa[ydF]using hu
  |succ j=>simp at hu) (by simp;omega))
 have M:=zh3 O.2 N.2 G;clear O N G;have i:=zhd H;clear H;go_in;go_wp2_with fail;refine S.o.mono ?_;rintro e P ⟨rfl,A⟩;have q:∀o,P.cell? ⟨w,o,none⟩=(#[.int .i64 2,.int .i64 cn,.string cs,.slice la ln lc]:Array Value)[o]? :=fun o=>by
  rw[A.o.2.cell (by simp;omega) (by omega) (fun h=>by have:=M.o.2.2 _ h;omega),zch yaD]
 have X:=q 0;have W:=q 1;have V:=q 2;have U:=q 3;simp only[zmc,zma,zmb]at X W V U;have a:=zhd ((M.o.1.trans M.o.2.1).trans A.o.2);have T:w.heap.size+1<P.heap.size:=by have:=A.o.2.1.size;simp at this;omega
 clear q S;have f:=zhd (yjJ b (l++[y]) cs _ A.o.1 (by simp;omega));go_wp2_with fail;refine f.o.mono ?_;rintro e g ⟨rfl,R⟩;go_wp2_with fail
 go_end0
 refine⟨rfl,zhd ⟨?_,a.o.trans R.o.2⟩⟩;rw[<-d.o];have:=R.o.1;rw[List.append_assoc]at this;exact this
def yqJ (w:World)(b:Nat)(x:Val)(L:List UInt8)(gk:Nat)(v39:Value)(wr:World):Prop:=
 ∃(i:Nat) (l1:List UInt8),v39= .int .i64 i/\i<=x.list.length/\gk=x.list.length - i/\WB wr b l1/\l1++yai.bytesL (x.list.drop i)=L/\WK b w wr
theorem yeW (n:Nat)(IH:∀(x:Val),x.parts<=n->∀(b:Nat) (l:List UInt8) (c:VC) (F:Nat->Prop) (w:World),WB w b l->CF F w c x->(∀j,F j->j≠b/\¬yce w b j)->x.wf->l.length+(yai x).length+12<=1099511627776->
   Calls Tryz.prog 60 #[.pointer (some ⟨b,0,none⟩),.agg #[c.kind,c.n,c.s,.slice c.la c.ln c.lc]] w (WPB w b (l++yai x)))
  (x:Val)
  (b:Nat)(l:List UInt8)(ck cn:Int)(cs:ByteArray)(la:Option Addr)(ln lc:Nat)(F:Nat->Prop)(w:World)(H:WB w b l)(C:CF F w ⟨ck,cn,cs,la,ln,lc⟩ x)(hF:∀j,F j->j≠b/\¬yce w b j)(hw:x.wf)(hl:l.length+(yai x).length+12<=1099511627776)(r:List UInt8)(hr:yai x=r)
  (k1:ck=3)(hx:x.parts<=n+1)(g off:Nat)
  (hel:ln=x.list.length/\ln<=maxLen/\(∀(i:Nat) (y:Val),x.list[i]? =some y->F g/\g<w/\∃c,CF F w c y/\
    w.cell? ⟨g,off+i*4,none⟩=some (.int .i64 c.kind)/\w.cell? ⟨g,off+i*4+1,none⟩=some (.int .i64 c.n)/\w.cell? ⟨g,off+i*4+2,none⟩=some (.string c.s)/\w.cell? ⟨g,off+i*4+3,none⟩=some (.slice c.la c.ln c.lc)))(hla:la=some ⟨g,off,none⟩\/x.list=[]):
  Calls Tryz.prog 60 #[.pointer (some ⟨b,0,none⟩),.agg #[ck,cn,cs,.slice la ln lc]] w (WPB w b (l++r))
  :=by
 subst k1;have b0:=H.lt;have m:3=x.kind:=C.kind;have Ae:cn=x.num:=C.n;have Ad:cs=x.txt:=C.s;have X:=(Val.wf_eq x).1 hw;have N:=hr;rw[yaZ]at hr;rw[N]at hl;have Q:=zh4 C X N hF;clear C X N hw hF;obtain⟨y,hy⟩:∃y,y=UInt8.ofNat (x.kind%256).toNat:=⟨_,rfl⟩;rw[<-hy]at hr;have W:(3:Int)=(y.toNat:Int):=by
  have h:(x.kind%256).toNat<256:=by omega
  rw[hy,UInt8.toNat_ofNat_of_lt' (by exact h)];omega
 have HY:=zhd W;clear hy W;rw[<-m]at hr;have e1:((3:Int)==1)=false:=rfl;have e2:((3:Int)==2)=false:=rfl;rw[e1,e2]at hr;simp only[beq_self_eq_true,znm,znl]at hr;obtain⟨K,Ac,hel⟩:=hel;rw[<-K]at hr;have HR:=zhd hr;have HE:=zhd hel;have HL:=zhd K;have Ag:=zhd hla;unfold maxLen at Ac;have Ah:=zhd IH;clear hr m Ae Ad e1 e2 hel K IH hla;have H1:=H.alloc (.cells #[.int .i64 3,cn,cs,.slice la ln lc] 38);have H2:=H1.1.alloc (.cells #[.int .u8 3] 5);have Z:∀j,yce ((w.alloc (.cells #[.int .i64 3,cn,cs,.slice la ln lc] 38)).alloc (.cells #[.int .u8 3] 5)) b j->j<w.heap.size:=fun j hj=>(H.row ((yaM b0 _).1 ((yaM (by simp;omega) _).1 hj))).2;have CB:=zhd (show Calls Tryz.prog 105 #[.pointer (some ⟨b,0,none⟩),.slice (some ⟨w.heap.size+1,0,none⟩) 1 1] _ (WPB _ b (l++[y]))from ydL b l [y] (w.heap.size+1) 1 _ H2.1 (fun j u hu=>by
  rw[zch yat];cases j with
  |zero=>rw[HY.o];simpa[ydF]using hu
  |succ j=>simp at hu) (by simp;omega))
 have HK:=zh3 H1.2 H2.2 Z;clear H1 H2 Z;have HH:=zhd H;clear H;go_in;go_wp2_with fail;refine CB.o.mono ?_;rintro e E ⟨rfl,B⟩;have q:∀o,E.cell? ⟨w,o,none⟩=(#[.int .i64 3,.int .i64 cn,.string cs,.slice la ln lc]:Array Value)[o]? :=fun o=>by
  rw[B.o.2.cell (by simp;omega) (by omega) (fun h=>by have:=HK.o.2.2 _ h;omega),zch yaD]
 have V:=q 0;have U:=q 1;have T:=q 2;have R:=q 3;simp only[zmc,zma,zmb]at V U T R;have K2:=zhd ((HK.o.1.trans HK.o.2.1).trans B.o.2);have Ak:w.heap.size+1<E.heap.size:=by have:=B.o.2.1.size;simp at this;omega
 clear q CB;have b2:=B.o.1.lt;have HA:=B.o.1.alloc (.cells #[.int .u64 ln] 188);have CN:=zhd (yhs b (l++[y]) ln E.heap.size 1 _ HA.1 (by rw[zch (znb _ _)];rfl) (by omega) (by have h:=congrArg List.length HR.o;simp at h|-;omega));go_wp2_with fail;refine CN.o.mono ?_;rintro e w3 ⟨rfl,H3⟩;have Y:∀j,yce (E.alloc (.cells #[.int .u64 ln] 188)) b j->j<w.heap.size\/w.heap.size+2<=j:=fun j hj=>by
  rcases B.o.2.2 j ((yaM b2 _).1 hj)with h|h
  .exact .inl (HK.o.2.2 j h)
  .simp at h;exact .inr h
 have q:∀o,w3.cell? ⟨w,o,none⟩=E.cell? ⟨w,o,none⟩:=fun o=>by
  rw[H3.o.2.cell (by simp;omega) (by omega) (fun h=>by have:=Y _ h;omega)];exact znt (w:=E) (zne _ _ _ (show w<E.heap.size by omega))
 rw[<-q 0]at V;rw[<-q 1]at U;rw[<-q 2]at T;rw[<-q 3]at R;have K3:=zhd ((K2.o.trans HA.2).trans H3.o.2);have p:=H3.o.1;clear q CN Y H3 HA HK K2;go_wp2_with fail;go_loopg [39] (x.list.length) (fun gk v39 wr=>yqJ w b x (l++r) gk v39 wr)
 case atStart=>exact⟨0,_,rfl,znq _,rfl,p,(by rw[<-HR.o];simp),K3.o⟩
 case round=>
  clear V U T R p K3;obtain⟨i,l1,rfl,hi,L,t,M,D⟩:=hrel;by_cases hin:i<ln
  .obtain⟨z,J⟩:=yae (l:=x.list) (k:=i) (by have:=HL.o;omega)
   obtain⟨Af,hg,A,hC,V,U,T,R⟩:=HE.o i z J;have a:=Q.o.2.2.2 g Af;have Ai:(i:Int)<ln:=by omega
   have hla:la=some ⟨g,off,none⟩:=Ag.o.resolve_right (fun e=>by rw[e]at J;simp at J);have Aj:=D.1.size;have b1:=t.lt;rw[<-D.cell hg a.1 a.2]at V U T R;have d:x.list.drop i=z::x.list.drop (i+1):=by
    rw[znr (zge J).1,(zge J).2]
   rw[d,ybs]at M;have I:=zmg J;have Ab:=(hC.mono (G:=fun j=>F j/\j<w) (fun j h l=>⟨h,l⟩)).keep D.1 (fun j h e=>e.elim (Q.o.2.2.2 j h.1).1 (Q.o.2.2.2 j h.1).2);have O:=t.alloc (.cells #[A.kind,A.n,A.s,.slice A.la A.ln A.lc] 38);have Aa:=Ab.keep (S:=fun _=>False) ((Keeps.refl _ _).alloc (.cells #[A.kind,A.n,A.s,.slice A.la A.ln A.lc] 38)) (fun _ _ f=>f);have CA:=zhd (Ah.o z (by have:=Val.parts_lt (v:=x) I;omega) b l1 A _ _ O.1 Aa (fun j h=>⟨(Q.o.2.2.2 j h.1).1,fun hj=>by
    rcases D.2 j ((yaM b1 _).1 hj)with h1|h1
    .exact(Q.o.2.2.2 j h.1).2 h1
    .have:=h.2;omega⟩) (Val.wfL_mem Q.o.2.1.2.2.2 I) (by have h:=congrArg List.length M;simp at h;omega))
   have P:=zh3 M (D.trans O.2) L;subst hla;clear t M D L hC Ab O Aa d J I;go_wp2_with fail;refine CA.o.mono ?_;rintro e w5 ⟨rfl,H5⟩;go_wp2_with fail;go_roundg (x.list.length - (i+1))
   case measure=>have:=P.o.2.2;have:=HL.o;omega
   case rel=>exact⟨i+1,_,by simp,(by have:=HL.o;omega),rfl,H5.o.1,(by rw[List.append_assoc];exact P.o.1),P.o.2.1.trans H5.o.2⟩
  .obtain rfl:i=ln:=by have:=HL.o;omega
   rw[zns (by have:=HL.o;omega),ydp,List.append_nil]at M;have P:=zh3 M t D;clear t M D L;go_wp2_with fail
   go_end0
   exact⟨rfl,zhd ⟨by rw[<-P.o.1];exact P.o.2.1,P.o.2.2⟩⟩
theorem ydN:∀(n:Nat) (x:Val),x.parts<=n->∀(b:Nat) (l:List UInt8) (c:VC) (F:Nat->Prop) (w:World),WB w b l->CF F w c x->(∀j,F j->j≠b/\¬yce w b j)->x.wf->l.length+(yai x).length+12<=1099511627776->
   Calls Tryz.prog 60 #[.pointer (some ⟨b,0,none⟩),.agg #[c.kind,c.n,c.s,.slice c.la c.ln c.lc]] w (WPB w b (l++yai x))
 |0,x,hx,_,_,_,_,_,_,_,_,_,_=>by have:=x.parts_pos;omega
 |n+1,x,hx,b,l,⟨ck,cn,cs,la,ln,lc⟩,F,w,H,C,hF,hw,hl=>by
  by_cases k1:ck=1
  .exact yjK x b l ck cn cs la ln lc F w H C hF hw hl _ rfl k1
  .by_cases k2:ck=2
   .exact yiM x b l ck cn cs la ln lc F w H C hF hw hl _ rfl k2
   .by_cases k3:ck=3
    .obtain⟨I,G,A⟩:=C.l.elems
     rcases A with A|⟨g,B,D,E,J,A⟩
     .exact yeW n (fun y hy=>ydN n y hy) x b l ck cn cs la ln lc F w H C hF hw hl _ rfl k3 hx 0 0 ⟨I,G,fun i y hy=>by rw[A]at hy;simp at hy⟩ (.inr A)
     .exact yeW n (fun y hy=>ydN n y hy) x b l ck cn cs la ln lc F w H C hF hw hl _ rfl k3 hx g B ⟨I,G,fun i y hy=>⟨E,J,A i y hy⟩⟩ (.inl D)
    .exact ygV x b l ck cn cs la ln lc F w H C hF hw hl _ rfl (beq_eq_false_iff_ne.2 k1) (beq_eq_false_iff_ne.2 k2) (beq_eq_false_iff_ne.2 k3)
end Go.Proofs.YtpagmlndgblhhaaGreatDoor
namespace Go.Va
open Go.Own Go.RowKit
def cmpV:Val->Val->Int
 | .mk k n s l,y=>
   bif k !=y.kind then(bif decide (k<y.kind)then -1 else 1)else
   bif k==1 then(bif n !=y.num then(bif decide (n<y.num)then -1 else 1)else 0)else
   bif k==2 then Lib.compareBytes s.data.toList y.txt.data.toList else
   bif k==3 then cmpLs l y.list else 0
where cmpLs:List Val->List Val->Int
 |[],ys=>bif decide (0<ys.length)then -1 else 0
 |_::_,[]=>1
 |x::r,y::s=>bif cmpV x y !=0 then cmpV x y else cmpLs r s
theorem ydn (x y:Val):cmpV x y=
  bif x.kind !=y.kind then(bif decide (x.kind<y.kind)then -1 else 1)else
  bif x.kind==1 then(bif x.num !=y.num then(bif decide (x.num<y.num)then -1 else 1)else 0)else
  bif x.kind==2 then Lib.compareBytes x.txt.data.toList y.txt.data.toList else
  bif x.kind==3 then cmpV.cmpLs x.list y.list else 0:=by
 cases x;rw[cmpV];rfl
theorem yfR (ys:List Val):cmpV.cmpLs [] ys=bif decide (0<ys.length)then -1 else 0:=by rw[cmpV.cmpLs]
theorem yiG (x:Val)(r:List Val):cmpV.cmpLs (x::r) []=1:=by rw[cmpV.cmpLs]
theorem ygE (x y:Val)(r s:List Val):cmpV.cmpLs (x::r) (y::s)=bif cmpV x y !=0 then cmpV x y else cmpV.cmpLs r s:=by rw[cmpV.cmpLs]
end Go.Va
namespace Go.Proofs.YtpagmlndgblhhaaGreatDoor
open Go.RowKit Go.Own Go.Own.MapTy Go.Va Go.Sort
open Go.Own.Cells (sz enc)
theorem ymi (x y:Val)
  (ck cn:Int)(cs:ByteArray)(la:Option Addr)(ln lc:Nat)(dk dn:Int)(ds:ByteArray)(ma:Option Addr)(mn mc:Nat)(F F':Nat->Prop)(w:World)(C:CF F w ⟨ck,cn,cs,la,ln,lc⟩ x)(D:CF F' w ⟨dk,dn,ds,ma,mn,mc⟩ y)(r:Int)(hr:cmpV x y=r)
  (hk:(ck !=dk)=true):
  Calls Tryz.prog 71 #[.agg #[ck,cn,cs,.slice la ln lc],.agg #[dk,dn,ds,.slice ma mn mc]] w fun e w'=>e= .returned (.int .i64 r)/\Below w w w'
  :=by
 rw[ydn]at hr;have E:ck=x.kind:=C.kind;have B:cn=x.num:=C.n;have A:cs=x.txt:=C.s;have I:dk=y.kind:=D.kind;have H:dn=y.num:=D.n;have G:ds=y.txt:=D.s;rw[<-E,<-B,<-A,<-I,<-H,<-G]at hr;clear E B A I H G;have O:=zh2 C D;clear C D;rw[hk]at hr;simp only[znm]at hr;have J:(ck==dk)=false:=by simpa using hk
 have K:=zhd hr;clear hr;have M:=zhd (fun W=>yic (decide (ck<dk)) W);have L:=zhd ((((znv w.heap.size w).alloc (znc _) (.cells #[ck,cn,cs,.slice la ln lc] 38)).alloc (by simp) (.cells #[dk,dn,ds,.slice ma mn mc] 38)));generalize hd:decide (ck<dk)=b at*;go_in;go_wp2_with fail;refine(M.o _).mono ?_;rintro e N ⟨rfl,rfl⟩;go_wp2;go_ret;exact⟨by rw[<-K.o];rfl,L.o⟩
theorem ynK (x y:Val)
  (ck cn:Int)(cs:ByteArray)(la:Option Addr)(ln lc:Nat)(dk dn:Int)(ds:ByteArray)(ma:Option Addr)(mn mc:Nat)(F F':Nat->Prop)(w:World)(C:CF F w ⟨ck,cn,cs,la,ln,lc⟩ x)(D:CF F' w ⟨dk,dn,ds,ma,mn,mc⟩ y)(r:Int)(hr:cmpV x y=r)
  (hk:ck=dk)(h1:ck=1):
  Calls Tryz.prog 71 #[.agg #[ck,cn,cs,.slice la ln lc],.agg #[dk,dn,ds,.slice ma mn mc]] w fun e w'=>e= .returned (.int .i64 r)/\Below w w w'
  :=by
 rw[ydn]at hr;have h1:ck=x.kind:=C.kind;have G:cn=x.num:=C.n;have E:cs=x.txt:=C.s;have J:dk=y.kind:=D.kind;have I:dn=y.num:=D.n;have H:ds=y.txt:=D.s;rw[<-h1,<-G,<-E,<-J,<-I,<-H]at hr;clear h1 G E J I H;have O:=zh2 C D;clear C D;have A:(ck !=dk)=false:=by rw[hk];simp
 rw[A]at hr;simp only[znl]at hr;subst hk;have K:=zhd ((((znv w.heap.size w).alloc (znc _) (.cells #[ck,cn,cs,.slice la ln lc] 38)).alloc (by simp) (.cells #[ck,dn,ds,.slice ma mn mc] 38)));clear A;subst h1;simp only[beq_self_eq_true,znm]at hr;cases hn:(cn !=dn)with
 |true=>
  rw[hn]at hr;simp only[znm]at hr;have L:(cn==dn)=false:=by simpa using hn
  have B:=zhd hr;clear hr;have M:=zhd (fun W=>yic (decide (cn<dn)) W);generalize hd:decide (cn<dn)=b at*;go_in;go_wp2_with fail;refine(M.o _).mono ?_;rintro e N ⟨rfl,rfl⟩;go_wp2;go_ret;exact⟨by rw[<-B.o];rfl,K.o⟩
 |false=>
  rw[hn]at hr;simp only[znl]at hr;obtain rfl:cn=dn:=by simpa using hn
  have B:=zhd hr;clear hr hn;go_in;go_wp2;go_ret;exact⟨by rw[<-B.o];rfl,K.o⟩
theorem ymg (x y:Val)
  (ck cn:Int)(cs:ByteArray)(la:Option Addr)(ln lc:Nat)(dk dn:Int)(ds:ByteArray)(ma:Option Addr)(mn mc:Nat)(F F':Nat->Prop)(w:World)(C:CF F w ⟨ck,cn,cs,la,ln,lc⟩ x)(D:CF F' w ⟨dk,dn,ds,ma,mn,mc⟩ y)(r:Int)(hr:cmpV x y=r)
  (hk:ck=dk)(h1:ck=2):
  Calls Tryz.prog 71 #[.agg #[ck,cn,cs,.slice la ln lc],.agg #[dk,dn,ds,.slice ma mn mc]] w fun e w'=>e= .returned (.int .i64 r)/\Below w w w'
  :=by
 rw[ydn]at hr;have h1:ck=x.kind:=C.kind;have E:cn=x.num:=C.n;have B:cs=x.txt:=C.s;have I:dk=y.kind:=D.kind;have H:dn=y.num:=D.n;have G:ds=y.txt:=D.s;rw[<-h1,<-E,<-B,<-I,<-H,<-G]at hr;clear h1 E B I H G;have O:=zh2 C D;clear C D;have A:(ck !=dk)=false:=by rw[hk];simp
 rw[A]at hr;simp only[znl]at hr;subst hk;have L:=zhd ((((znv w.heap.size w).alloc (znc _) (.cells #[ck,cn,cs,.slice la ln lc] 38)).alloc (by simp) (.cells #[ck,dn,ds,.slice ma mn mc] 38)));clear A;subst h1;have J:((2:Int)==1)=false:=rfl;rw[J]at hr;simp only[beq_self_eq_true,znm,znl]at hr;have M:=zhd (fun W=>Any.strings_Compare Tryz.lays106 cs ds W);have K:=zhd hr;clear hr J;go_in;go_wp2_with fail;refine(M.o _).mono ?_;rintro e N ⟨rfl,rfl⟩;go_wp2;go_ret;exact⟨by rw[<-K.o];rfl,L.o⟩
theorem yk0 (x y:Val)
  (ck cn:Int)(cs:ByteArray)(la:Option Addr)(ln lc:Nat)(dk dn:Int)(ds:ByteArray)(ma:Option Addr)(mn mc:Nat)(F F':Nat->Prop)(w:World)(C:CF F w ⟨ck,cn,cs,la,ln,lc⟩ x)(D:CF F' w ⟨dk,dn,ds,ma,mn,mc⟩ y)(r:Int)(hr:cmpV x y=r)
  (hk:ck=dk)(h1:(ck==1)=false)(h2:(ck==2)=false)(h3:(ck==3)=false):
  Calls Tryz.prog 71 #[.agg #[ck,cn,cs,.slice la ln lc],.agg #[dk,dn,ds,.slice ma mn mc]] w fun e w'=>e= .returned (.int .i64 r)/\Below w w w'
  :=by
 rw[ydn]at hr;have h1:ck=x.kind:=C.kind;have h2:cn=x.num:=C.n;have h3:cs=x.txt:=C.s;have G:dk=y.kind:=D.kind;have E:dn=y.num:=D.n;have B:ds=y.txt:=D.s;rw[<-h1,<-h2,<-h3,<-G,<-E,<-B]at hr;clear h1 h2 h3 G E B;have J:=zh2 C D;clear C D;have A:(ck !=dk)=false:=by rw[hk];simp
 rw[A]at hr;simp only[znl]at hr;subst hk;have I:=zhd ((((znv w.heap.size w).alloc (znc _) (.cells #[ck,cn,cs,.slice la ln lc] 38)).alloc (by simp) (.cells #[ck,dn,ds,.slice ma mn mc] 38)));clear A;rw[h1,h2,h3]at hr;simp only[znl]at hr;have H:=zhd hr;clear hr;go_in;go_wp2;go_ret;exact⟨by rw[<-H.o];rfl,I.o⟩
def yqT (w2:World)(x y:Val)(r:Int)(gk:Nat)(v46:Value)(wr:World):Prop:=
 ∃i:Nat,v46= .int .i64 i/\i<=x.list.length/\i<=y.list.length/\gk=x.list.length - i/\cmpV.cmpLs (x.list.drop i) (y.list.drop i)=r/\Below w2 w2 wr
theorem ymh (n:Nat)(IH:∀(x:Val),x.parts<=n->∀(y:Val) (c d:VC) (F F':Nat->Prop) (w:World),CF F w c x->CF F' w d y->
   Calls Tryz.prog 71 #[.agg #[c.kind,c.n,c.s,.slice c.la c.ln c.lc],.agg #[d.kind,d.n,d.s,.slice d.la d.ln d.lc]] w fun e w'=>e= .returned (.int .i64 (cmpV x y))/\Below w w w')
  (x y:Val)
  (ck cn:Int)(cs:ByteArray)(la:Option Addr)(ln lc:Nat)(dk dn:Int)(ds:ByteArray)(ma:Option Addr)(mn mc:Nat)(F F':Nat->Prop)(w:World)(C:CF F w ⟨ck,cn,cs,la,ln,lc⟩ x)(D:CF F' w ⟨dk,dn,ds,ma,mn,mc⟩ y)(r:Int)(hr:cmpV x y=r)
  (hk:ck=dk)(h1:ck=3)(hx:x.parts<=n+1)(g off g' off':Nat)
  (hel:ln=x.list.length/\ln<=maxLen/\(∀(i:Nat) (z:Val),x.list[i]? =some z->F g/\g<w/\∃c,CF F w c z/\
    w.cell? ⟨g,off+i*4,none⟩=some (.int .i64 c.kind)/\w.cell? ⟨g,off+i*4+1,none⟩=some (.int .i64 c.n)/\w.cell? ⟨g,off+i*4+2,none⟩=some (.string c.s)/\w.cell? ⟨g,off+i*4+3,none⟩=some (.slice c.la c.ln c.lc)))(hla:la=some ⟨g,off,none⟩\/x.list=[])
  (hem:mn=y.list.length/\mn<=maxLen/\(∀(i:Nat) (z:Val),y.list[i]? =some z->F' g'/\g'<w.heap.size/\∃c,CF F' w c z/\
    w.cell? ⟨g',off'+i*4,none⟩=some (.int .i64 c.kind)/\w.cell? ⟨g',off'+i*4+1,none⟩=some (.int .i64 c.n)/\w.cell? ⟨g',off'+i*4+2,none⟩=some (.string c.s)/\w.cell? ⟨g',off'+i*4+3,none⟩=some (.slice c.la c.ln c.lc)))(hma:ma=some ⟨g',off',none⟩\/y.list=[]):
  Calls Tryz.prog 71 #[.agg #[ck,cn,cs,.slice la ln lc],.agg #[dk,dn,ds,.slice ma mn mc]] w fun e w'=>e= .returned (.int .i64 r)/\Below w w w'
  :=by
 rw[ydn]at hr;have h1:ck=x.kind:=C.kind;have h2:cn=x.num:=C.n;have h3:cs=x.txt:=C.s;have g1:dk=y.kind:=D.kind;have g2:dn=y.num:=D.n;have g3:ds=y.txt:=D.s;rw[<-h1,<-h2,<-h3,<-g1,<-g2,<-g3]at hr;clear h1 h2 h3 g1 g2 g3;have HC:=zh2 C D;clear C D;have Y:(ck !=dk)=false:=by rw[hk];simp
 rw[Y]at hr;simp only[znl]at hr;subst hk;have HB:=zhd ((((znv w.heap.size w).alloc (znc _) (.cells #[ck,cn,cs,.slice la ln lc] 38)).alloc (by simp) (.cells #[ck,dn,ds,.slice ma mn mc] 38)));clear Y;subst h1;have e1:((3:Int)==1)=false:=rfl;have e2:((3:Int)==2)=false:=rfl;rw[e1,e2]at hr;simp only[beq_self_eq_true,znm,znl]at hr;obtain⟨X,Ae,hel⟩:=hel;obtain⟨V,Ac,hem⟩:=hem;have HR:=zhd hr;have HE:=zh2 hel hem;have Q:=zh2 X V;have h:=zh2 hla hma;have HI:=zhd IH;unfold maxLen at Ae Ac;clear hr e1 e2 hel hem X V hla hma IH;go_in;go_wp2_with fail;obtain⟨M,K⟩:∃M,M=(w.alloc (.cells #[.int .i64 3,cn,cs,.slice la ln lc] 38)).alloc (.cells #[.int .i64 3,dn,ds,.slice ma mn mc] 38):=⟨_,rfl⟩;have p3:M.cell? ⟨w,3,none⟩=some (.slice la ln lc):=by rw[K,zch yaD];rfl
 have m:M.cell? ⟨w.heap.size+1,3,none⟩=some (.slice ma mn mc):=by rw[K,zch yat];rfl
 have U:M.heap.size=w.heap.size+2:=by rw[K];simp
 rw[<-K]at HB|-;have R:=zh3 p3 m U;clear K p3 m U;go_loopg [46] (x.list.length) (fun gk v46 wr=>yqT M x y r gk v46 wr)
 case atStart=>exact⟨0,rfl,znq _,znq _,rfl,HR.o,znv _ _⟩
 case round=>
  obtain⟨i,rfl,hi,hj,L,A,O⟩:=hrel;have b1:=O.size;have s1:w.heap.size+1<wr.heap.size:=by have:=R.o.2.2;omega
  have s0:w<wr.heap.size:=by omega
  have p3:wr.cell? ⟨w,3,none⟩=some (.slice la ln lc):=by rw[O.cell (p:=⟨w,3,none⟩) (show w<M.heap.size by have:=R.o.2.2;omega)];exact R.o.1
  have m:wr.cell? ⟨w.heap.size+1,3,none⟩=some (.slice ma mn mc):=by rw[O.cell (p:=⟨w.heap.size+1,3,none⟩) (show w.heap.size+1<M.heap.size by have:=R.o.2.2;omega)];exact R.o.2.1
  have G:=HB.o.trans (O.mono (show w<=M.heap.size by have:=R.o.2.2;omega));by_cases hin:i<ln
  .obtain⟨z,J⟩:=yae (l:=x.list) (k:=i) (by have:=Q.o.1;omega)
   obtain⟨Am,hg,H,hC,q0,q1,q2,q3⟩:=HE.o.1 i z J;have Ai:(i:Int)<ln:=by omega
   have hla:la=some ⟨g,off,none⟩:=h.o.1.resolve_right (fun e=>by rw[e]at J;simp at J);rw[<-G.cell (p:=⟨g,_,none⟩) hg]at q0 q1 q2 q3;have N:x.list.drop i=z::x.list.drop (i+1):=by
    rw[znr (zge J).1,(zge J).2]
   have Ak:g<wr:=by omega
   subst hla;by_cases hjn:i<mn
   .obtain⟨u,P⟩:=yae (l:=y.list) (k:=i) (by have:=Q.o.2;omega)
    obtain⟨Al,hm,d',hD,m0,m1,m2,m3⟩:=HE.o.2 i u P;have Ah:((i:Int)==mn)=false:=by rw[zna];omega
    have Ag:(i:Int)<mn:=by omega
    have hma:ma=some ⟨g',off',none⟩:=h.o.2.resolve_right (fun e=>by rw[e]at P;simp at P);rw[<-G.cell (p:=⟨g',_,none⟩) hm]at m0 m1 m2 m3;have Z:y.list.drop i=u::y.list.drop (i+1):=by
     rw[znr (zge P).1,(zge P).2]
    have Ad:g'<wr.heap.size:=by omega
    rw[N,Z,ygE]at A;have CW:=zhd (fun W (hW:Below wr wr W)=>HI.o z (by have:=Val.parts_lt (v:=x) (zmg J);omega) u H d' _ _ W (hC.keep (S:=fun _=>False) (zkb (G.trans (hW.mono G.size))) (fun _ _ f=>f)) (hD.keep (S:=fun _=>False) (zkb (G.trans (hW.mono G.size))) (fun _ _ f=>f)));generalize cmpV z u=cv at*;have B:=zh8 A O L G hj hi (zge J).1 (zge P).1;subst hma;clear A O L G J P hC hD N Z;go_wp2_with fail;obtain⟨I,E⟩:∃I,I=wr.alloc (.cells #[H.kind,H.n,H.s,.slice H.la H.ln H.lc] 38):=⟨_,rfl⟩;have q:=zba E;have T:I.heap.size=wr.heap.size+1:=by rw[E];simp
    have z0:I.cell? ⟨wr,0,none⟩=some (.int .i64 H.kind):=by rw[E,zch (znb _ _)];rfl
    have z1:I.cell? ⟨wr,1,none⟩=some (.int .i64 H.n):=by rw[E,zch (znb _ _)];rfl
    have z2:I.cell? ⟨wr,2,none⟩=some (.string H.s):=by rw[E,zch (znb _ _)];rfl
    have z3:I.cell? ⟨wr,3,none⟩=some (.slice H.la H.ln H.lc):=by rw[E,zch (znb _ _)];rfl
    rw[<-E];have t:=zh2 q T;have l6:wr<I.heap.size:=by omega
    rw[<-q.cell (p:=⟨g',_,none⟩) Ad]at m0 m1 m2 m3;rw[<-q.cell (p:=⟨w.heap.size+1,3,none⟩) s1]at m;have Af:g'<I.heap.size:=by omega
    have Aj:w.heap.size+1<I.heap.size:=by omega
    clear E q T;refine yaA (by kernel_rfl) (by kernel_rfl) ?_
    repeat(go_big_quiet_step ((go_at_call 71;exact yci (CW.o _ ((t.o.1.trans ((Subtype.property _:Below I I _).mono (by have:=t.o.2;omega))))))))
    refine wpQuiet_nil ?_;intro w7 b;have j:=zhd (t.o.1.trans (b.mono (by have:=t.o.2;omega)));clear b CW;cases J:(cv !=0)with
    |true=>
     have A:=B.o.1;rw[J]at A;simp only[znm]at A;have HM:=zhd A;clear A;go_wp2;go_ret;exact⟨by rw[<-HM.o];rfl,B.o.2.2.2.1.trans (j.o.mono B.o.2.2.2.1.size)⟩
    |false=>
     have A:=B.o.1;rw[J]at A;simp only[znl]at A;have HM:=zhd A;clear A;go_wp2_with fail;go_roundg (x.list.length - (i+1))
     case measure=>have:=B.o.2.2.1;have:=B.o.2.2.2.2.2.2.1;omega
     case rel=>exact⟨i+1,by simp,B.o.2.2.2.2.2.2.1,B.o.2.2.2.2.2.2.2,rfl,HM.o,B.o.2.1.trans (j.o.mono B.o.2.1.size)⟩
   .obtain rfl:i=mn:=by have:=Q.o.2;omega
    have Aa:y.list.drop i=[]:=zns (by have:=Q.o.2;omega);rw[N,Aa,yiG]at A;have B:=zh2 A G;clear A O L G J hC N;go_wp2;go_ret;exact⟨by rw[<-B.o.1];rfl,B.o.2.alloc (by have:=B.o.2.size;omega) _⟩
  .obtain rfl:i=ln:=by have:=Q.o.1;omega
   have Ab:x.list.drop i=[]:=zns (by have:=Q.o.1;omega);rw[Ab,yfR]at A;have a:(y.list.drop i).length=mn - i:=by rw[List.length_drop,<-Q.o.2]
   rw[a]at A;clear a;by_cases hlt:i<mn
   .have e3:(i:Int)<mn:=by omega
    have e4:decide (i<mn)=true:=by rw[decide_eq_true_eq];exact hlt
    rw[show decide (0<mn - i)=true from by rw[decide_eq_true_eq];omega]at A;have B:=zh2 A G;clear A O L G;go_wp2;go_ret;exact⟨by rw[<-B.o.1];rfl,B.o.2⟩
   .have e3:¬(i:Int)<mn:=by omega
    have e4:decide (i<mn)=false:=by rw[znz];exact hlt
    rw[show decide (0<mn - i)=false from by rw[znz];omega]at A;have B:=zh2 A G;clear A O L G;go_wp2;go_ret;exact⟨by rw[<-B.o.1];rfl,B.o.2⟩
theorem ycR:∀(n:Nat) (x:Val),x.parts<=n->∀(y:Val) (c d:VC) (F F':Nat->Prop) (w:World),CF F w c x->CF F' w d y->
   Calls Tryz.prog 71 #[.agg #[c.kind,c.n,c.s,.slice c.la c.ln c.lc],.agg #[d.kind,d.n,d.s,.slice d.la d.ln d.lc]] w fun e w'=>e= .returned (.int .i64 (cmpV x y))/\Below w w w'
 |0,x,hx,_,_,_,_,_,_,_,_=>by have:=x.parts_pos;omega
 |n+1,x,hx,y,⟨ck,cn,cs,la,ln,lc⟩,⟨dk,dn,ds,ma,mn,mc⟩,F,F',w,C,D=>by
  by_cases hk:ck=dk
  .by_cases k1:ck=1
   .exact ynK x y ck cn cs la ln lc dk dn ds ma mn mc F F' w C D _ rfl hk k1
   .by_cases k2:ck=2
    .exact ymg x y ck cn cs la ln lc dk dn ds ma mn mc F F' w C D _ rfl hk k2
    .by_cases k3:ck=3
     .obtain⟨M,L,B⟩:=C.l.elems
      obtain⟨P,O,N⟩:=D.l.elems;have K:∃g A,(la=some ⟨g,A,none⟩\/x.list=[])/\(∀(i:Nat) (z:Val),x.list[i]? =some z->F g/\g<w.heap.size/\∃c,CF F w c z/\
        w.cell? ⟨g,A+i*4,none⟩=some (.int .i64 c.kind)/\w.cell? ⟨g,A+i*4+1,none⟩=some (.int .i64 c.n)/\w.cell? ⟨g,A+i*4+2,none⟩=some (.string c.s)/\w.cell? ⟨g,A+i*4+3,none⟩=some (.slice c.la c.ln c.lc)):=by
       rcases B with B|⟨g,A,E,G,I,B⟩
       .exact⟨0,0,.inr B,fun i y hy=>by rw[B]at hy;simp at hy⟩
       .exact⟨g,A,.inl E,fun i y hy=>⟨G,I,B i y hy⟩⟩
      have J:∃g A,(ma=some ⟨g,A,none⟩\/y.list=[])/\(∀(i:Nat) (z:Val),y.list[i]? =some z->F' g/\g<w.heap.size/\∃c,CF F' w c z/\
        w.cell? ⟨g,A+i*4,none⟩=some (.int .i64 c.kind)/\w.cell? ⟨g,A+i*4+1,none⟩=some (.int .i64 c.n)/\w.cell? ⟨g,A+i*4+2,none⟩=some (.string c.s)/\w.cell? ⟨g,A+i*4+3,none⟩=some (.slice c.la c.ln c.lc)):=by
       rcases N with B|⟨g,A,E,G,I,B⟩
       .exact⟨0,0,.inr B,fun i y hy=>by rw[B]at hy;simp at hy⟩
       .exact⟨g,A,.inl E,fun i y hy=>⟨G,I,B i y hy⟩⟩
      obtain⟨g,A,U,T⟩:=K;obtain⟨Q,H,S,R⟩:=J;exact ymh n (fun y hy=>ycR n y hy) x y ck cn cs la ln lc dk dn ds ma mn mc F F' w C D _ rfl hk k3 hx g A Q H ⟨M,L,T⟩ U ⟨P,O,R⟩ S
     .exact yk0 x y ck cn cs la ln lc dk dn ds ma mn mc F F' w C D _ rfl hk (beq_eq_false_iff_ne.2 k1) (beq_eq_false_iff_ne.2 k2) (beq_eq_false_iff_ne.2 k3)
  .exact ymi x y ck cn cs la ln lc dk dn ds ma mn mc F F' w C D _ rfl (by simpa using hk)
theorem yfx (x y:Val)(c d:VC)(F F':Nat->Prop)(w:World)(C:CF F w c x)(D:CF F' w d y)(b:Bool)(hb:(cmpV x y==0)=b):
  Calls Tryz.prog 33 #[.agg #[c.kind,c.n,c.s,.slice c.la c.ln c.lc],.agg #[d.kind,d.n,d.s,.slice d.la d.ln d.lc]] w fun e w'=>e= .returned (.bool b)/\Below w w w':=by
 have A:Keeps (fun _=>False) w ((w.alloc (.cells #[c.kind,c.n,c.s,.slice c.la c.ln c.lc] 38)).alloc (.cells #[d.kind,d.n,d.s,.slice d.la d.ln d.lc] 38)):=((Keeps.refl _ _).alloc _).alloc _;have CC:=zhd (ycR x.parts x (znc _) y c d F F' _ (C.keep A (fun _ _ f=>f)) (D.keep A (fun _ _ f=>f)));have G:=zhd (A.below (B:=w.heap.size) (znc _) (fun _ _ f=>f));clear C D A;generalize cmpV x y=v at*;go_in;go_wp2_with fail;refine CC.o.mono ?_;rintro e I ⟨rfl,E⟩;have H:=zhd (G.o.trans (E.mono (by simp;omega)));clear E;go_wp2;go_ret;exact⟨rfl,H.o⟩
end Go.Proofs.YtpagmlndgblhhaaGreatDoor
namespace Go.Va
open Go.Own Go.RowKit
def ymq:Val:=.mk 0 0 ⟨#[]⟩ []
def yot (V:Nat->PR)(s:List UInt8):Nat->Nat->List Val->PR
 |0,_,_=>.bad
 |f+1,k,acc=>
  if yeu s k 93=true then .ok (.mk 3 0 ⟨#[]⟩ acc) (k+1)else
  if acc.length≠0/\yeu s k 32=false then .bad else
  match V (if acc.length=0 then k else k+1)with
  | .ok x k2=>yot V s f k2 (acc++[x])
  | .deep=>.deep
  | .bad=>.bad
def yqv:Option (List UInt8×Nat)->PR
 |some (t,k2)=>.ok (.mk 2 0 ⟨t.toArray⟩ []) k2
 |none=>.bad
def yoC (L:Nat->PR)(s:List UInt8)(k:Nat):PR:=
 if Lib.hasPrefix (s.drop k) [110,105,108]=true then .ok ymq (k+3)else
 if yeu s k 34=true then yqv (ykd [] (k+1) (s.drop (k+1)))else
 if yeu s k 91=true then L (k+1)else ygf s k
def ypq:Nat->List UInt8->Nat->PR
 |0,s,k=>yoC (fun _=>.deep) s k
 |n+1,s,k=>yoC (fun j=>yot (ypq n s) s (s.length+1) j []) s k
end Go.Va
namespace Go.Proofs.YtpagmlndgblhhaaGreatDoor
open Go.RowKit Go.Own Go.Own.MapTy Go.Va Go.Sort
open Go.Own.Cells (sz enc)
theorem ybl (n:Int)(w:World):Calls Tryz.prog 106 #[n] w fun e w'=>e= .returned (.agg #[.int .i64 1,n,.string ⟨#[]⟩,.slice none 0 0])/\Below w w w':=by
 go_in;go_wp2_with fail;exact zng (v:=.agg #[.int .i64 1,n,.string ⟨#[]⟩,.slice none 0 0]) (by simp only[results,Tryz.results106];go_simp) rfl ⟨rfl,zal⟩
theorem yoL {b:Nat}{s:ByteArray}{k:Nat}{deep:Bool}{c:UInt8}{w:World}(H:TX w b s k deep)(hs:s.size<=4294967280)(he:yeu s.data.toList k c=false):
  Calls Tryz.prog 171 #[.pointer (some ⟨b,0,none⟩),.int .u8 c.toNat] w fun e w'=>e= .returned (.bool false)/\Hid (TX w' b s k deep/\Keeps (fun j=>j=b) w w'):=
 (ykV b s k deep c w H hs).mono fun e w' ⟨h1,h2⟩=>⟨by rw[h1,he],zhd (by have:=h2.o;rw[he]at this;exact this)⟩
def Z4 (W:World)(B:Nat):Prop:=W.heap[B]? =some (.cells #[.int .i64 0,.int .i64 0,.string .empty,.slice none 0 0] 38 (0,0))
theorem Z4.c0 {W:World}{B:Nat}(h:Z4 W B):W.cell? ⟨B,0,none⟩=some (.int .i64 0):=by rw[zch h];rfl
theorem Z4.c1 {W:World}{B:Nat}(h:Z4 W B):W.cell? ⟨B,1,none⟩=some (.int .i64 0):=by rw[zch h];rfl
theorem Z4.c2 {W:World}{B:Nat}(h:Z4 W B):W.cell? ⟨B,2,none⟩=some (.string .empty):=by rw[zch h];rfl
theorem Z4.c3 {W:World}{B:Nat}(h:Z4 W B):W.cell? ⟨B,3,none⟩=some (.slice none 0 0):=by rw[zch h];rfl
theorem Z4.fr {W:World}{B:Nat}(h:Z4 W B)(o:Nat):W.frozen? ⟨B,o,none⟩=false:=zfr h o
structure VS (w:World)(N b:Nat)(s:ByteArray)(k:Nat)(deep:Bool)(W:World):Prop where
 t:TX W b s k deep
 k:Keeps (fun j=>j=b) w W
 z:Z4 W w.heap.size
 g:Gl Tryz.prog N W
 lt:w<W.heap.size
theorem VS.step {w W W':World}{N b:Nat}{s:ByteArray}{k k':Nat}{deep deep':Bool}(h:VS w N b s k deep W)(b0:b<w)(hN:N<=b)(T:TX W' b s k' deep')(K:Keeps (fun j=>j=b) W W'):VS w N b s k' deep' W':=
 ⟨T,h.k.trans K (fun _ _ e=>e),(K.block _ h.lt (by omega)).trans h.z,h.g.keep K (fun j e=>by omega),znj h.lt K.size⟩
theorem VS.fin {w W:World}{N b:Nat}{s:ByteArray}{k:Nat}{deep:Bool}(h:VS w N b s k deep W)(b0:b<w)(x0 x1 x2 x3:Value):
  TX ((((W.setCell ⟨w,0,none⟩ x0).setCell ⟨w,1,none⟩ x1).setCell ⟨w,2,none⟩ x2).setCell ⟨w,3,none⟩ x3) b s k deep/\
  Keeps (fun j=>j=b) w ((((W.setCell ⟨w,0,none⟩ x0).setCell ⟨w,1,none⟩ x1).setCell ⟨w,2,none⟩ x2).setCell ⟨w,3,none⟩ x3)/\
  Keeps (fun j=>j=w) W ((((W.setCell ⟨w,0,none⟩ x0).setCell ⟨w,1,none⟩ x1).setCell ⟨w,2,none⟩ x2).setCell ⟨w,3,none⟩ x3):=by
 have K:=((((Keeps.refl (fun j=>j=w) W).setCell (p:=⟨w,0,none⟩) (.inl rfl) x0).setCell (p:=⟨w,1,none⟩) (.inl rfl) x1).setCell (p:=⟨w,2,none⟩) (.inl rfl) x2).setCell (p:=⟨w,3,none⟩) (.inl rfl) x3;exact⟨h.t.keep K (by omega),h.k.trans K (fun j hj e=>by omega),K⟩
theorem VS.below {w W W':World}{N b:Nat}{s:ByteArray}{k:Nat}{deep:Bool}(h:VS w N b s k deep W)(b0:b<w)(hN:N<=b)(K:Below W W W'):VS w N b s k deep W':=
 h.step b0 hN (h.t.keep (S:=fun _=>False) (zkb K) (fun f=>f)) ((zkb (S:=fun _=>False) K).mono (fun _ _ f=>f.elim))
def L8 (W:World)(B:Nat)(vl:Value):Prop:=W.heap[B]? =some (.cells #[.int .i64 3,.int .i64 0,.string ⟨#[]⟩,vl] 38 (0,0))
theorem yfO:ElemOf VC Tryz.prog 25 38 56:=ycj Tryz.underlying25 (z:=.agg #[.int .i64 0,.int .i64 0,.string .empty,.slice none 0 0]) (n:=4) (by kernel_rfl) rfl rfl
def LF (w:World)(B:Nat)(vl:Value):Nat->Prop:=fun j=>w<j/\j≠B/\vl.ownBlock≠some j
def ypZ (w:World)(b:Nat)(s:ByteArray)(r:PR)(e:Ending)(w':World):Prop:=
 ∃(c:VC) (k2:Nat),k2<=s.size/\Keeps (fun j=>j=b) w w'/\match r with
  | .ok x k3=>e= .returned (.tuple #[.agg #[c.kind,c.n,c.s,.slice c.la c.ln c.lc],.bool true])/\k2=k3/\CF (fun j=>w<=j) w' c x/\TX w' b s k2 false
  | .deep=>e= .returned (.tuple #[.agg #[c.kind,c.n,c.s,.slice c.la c.ln c.lc],.bool false])/\TX w' b s k2 true
  | .bad=>e= .returned (.tuple #[.agg #[c.kind,c.n,c.s,.slice c.la c.ln c.lc],.bool false])/\TX w' b s k2 false
theorem yl3 {N:Nat}
  (b:Nat)(s:ByteArray)(k:Nat)(d:Nat)(w:World)(H:TX w b s k false)(hs:s.size<=4294967280)(ha:k<=s.size)(G:Gl Tryz.prog N w)(hN:N<=b)
  (hp:Lib.hasPrefix (s.data.toList.drop k) [110,105,108]=false)(h1:yeu s.data.toList k 34=false)(h2:yeu s.data.toList k 91=false)(r:PR)(hr:ygf s.data.toList k=r):
  Calls Tryz.prog 151 #[.pointer (some ⟨b,0,none⟩),d] w
   (ypZ w b s r):=by
 have p:=zhd hr;clear hr;have S:b<w:=H.lt;have c0:=H.c0;have c1:=H.c1;have Ae:(k:Int)<=s.size:=by omega
 have u:=zh2 H G;clear H G;have Z:=zhd (show∀W,Calls Tryz.prog 170 #[.string (s.extract k s.size),.string ⟨#[110,105,108]⟩] W (fun e w'=>e= .returned (.bool false)/\W=w')from fun W=>(Any.strings_HasPrefix Tryz.lays99 (s.extract k s.size) ⟨#[110,105,108]⟩ W).mono fun e w' ⟨h1,h2⟩=>⟨by rw[h1,show(s.extract k s.size).data.toList=s.data.toList.drop k from by simp[ByteArray.data_extract,zmj],hp],h2.symm⟩);have Ai:=zhd hp;clear hp;go_in;go_wp2_with fail;refine yaA (by kernel_rfl) (by kernel_rfl) ?_
 repeat(go_big_quiet_step ((go_at_call 170;exact yfL (Z.o _))))
 refine wpQuiet_nil ?_;intro w1 R;have E:VS w N b s k false w1:=by
  have Y:Keeps (fun _=>False) w w1:=((Keeps.refl (fun _=>False) w).alloc _).trans (zkb R) (fun _ _ f=>f);exact⟨u.o.1.keep Y (fun f=>f),Y.mono (fun _ _ f=>f.elim),(R.block _ (by simp)).trans (znb _ _),u.o.2.keep Y (fun _ f=>f.elim),by have:=R.size;simp at this;omega⟩
 clear c0 c1 R;have c0:=E.t.c0;have c1:=E.t.c1;have c2:=E.t.c2;have O:=E.z.c0;have M:=E.z.c1;have L:=E.z.c2;have K:=E.z.c3;have P:=E.t.fr;have J:=E.z.fr;have Ad:=E.lt;have m:=zhd E;clear E;go_wp2_with fail;refine(yoL (c:=34) m.o.t hs h1).mono ?_;rintro e w2 ⟨rfl,H2⟩;have D:=zhd (m.o.step S hN H2.o.1 H2.o.2);clear c0 c1 c2 O M L K P J;have c0:=D.o.t.c0;have c1:=D.o.t.c1;have c2:=D.o.t.c2;have O:=D.o.z.c0;have M:=D.o.z.c1;have L:=D.o.z.c2;have K:=D.o.z.c3;have P:=D.o.t.fr;have J:=D.o.z.fr;have Ac:=D.o.lt;have Ah:=D.o.t.lt;go_wp2_with fail;refine(yoL (c:=91) D.o.t hs h2).mono ?_;rintro e w3 ⟨rfl,y⟩;have B:=zhd (D.o.step S hN y.o.1 y.o.2);clear c0 c1 c2 O M L K P J;have c0:=B.o.t.c0;have c1:=B.o.t.c1;have c2:=B.o.t.c2;have O:=B.o.z.c0;have M:=B.o.z.c1;have L:=B.o.z.c2;have K:=B.o.z.c3;have P:=B.o.t.fr;have J:=B.o.z.fr;have Ab:=B.o.lt;have Ag:=B.o.t.lt;go_wp2_with fail;refine(yjg b s k false w3 B.o.t hs ha B.o.g hN).mono ?_;rintro e w4 ⟨i,j,a⟩;have Q:=(ygg (s:=s.data.toList) (k:=k) (by simpa using ha)).2
 have Q:yb5 s.data.toList k<=s.size:=by simpa using Q
 have q:=zhd Q;clear Q;have C:=zhd (B.o.step S hN i j);clear c0 c1 c2 O M L K P J;have c0:=C.o.t.c0;have c1:=C.o.t.c1;have c2:=C.o.t.c2;have O:=C.o.z.c0;have M:=C.o.z.c1;have L:=C.o.z.c2;have K:=C.o.z.c3;have P:=C.o.t.fr;have J:=C.o.z.fr;have Aa:=C.o.lt;have Af:=C.o.t.lt;clear i j;rw[p.o]at a;cases r with
 |ok x k2=>
  obtain⟨rfl,h,U⟩:=a;have l:=zh2 h U;clear h U;go_wp2_with fail;refine(ybl _ _).mono ?_;rintro e w5 ⟨rfl,I⟩;have A:=zhd (C.o.below S hN I);clear c0 c1 c2 O M L K P J;have c0:=A.o.t.c0;have c1:=A.o.t.c1;have c2:=A.o.t.c2;have O:=A.o.z.c0;have M:=A.o.z.c1;have L:=A.o.z.c2;have K:=A.o.z.c3;have P:=A.o.t.fr;have J:=A.o.z.fr;have V:=A.o.lt;have X:=A.o.t.lt;clear I;go_wp2_with fail;have F:=A.o.fin S (.int .i64 1) (.int .i64 x.num) (.string ⟨#[]⟩) (.slice none 0 0);exact zng (v:=.tuple #[.agg #[.int .i64 1,x.num,.string ⟨#[]⟩,.slice none 0 0],.bool true]) (by simp only[results,Tryz.results151];go_simp) rfl ⟨⟨1,x.num,⟨#[]⟩,none,0,0⟩,yb5 s.data.toList k,q.o,F.2.1,rfl,l.o.2.symm,by rw[l.o.1];exact⟨rfl,rfl,rfl,VF.nil _ _⟩,F.1⟩
 |deep=>
  exfalso;have T:=p.o;unfold ygf at T;split at T
  .split at T<;>cases T
  .cases T
 |bad=>
  obtain⟨n,rfl⟩:=a;go_wp2_with fail;refine(ybl _ _).mono ?_;rintro e w5 ⟨rfl,I⟩;have A:=zhd (C.o.below S hN I);clear c0 c1 c2 O M L K P J;have c0:=A.o.t.c0;have c1:=A.o.t.c1;have c2:=A.o.t.c2;have O:=A.o.z.c0;have M:=A.o.z.c1;have L:=A.o.z.c2;have K:=A.o.z.c3;have P:=A.o.t.fr;have J:=A.o.z.fr;have V:=A.o.lt;have X:=A.o.t.lt;clear I;go_wp2_with fail;have F:=A.o.fin S (.int .i64 1) (.int .i64 n) (.string ⟨#[]⟩) (.slice none 0 0);exact zng (v:=.tuple #[.agg #[.int .i64 1,n,.string ⟨#[]⟩,.slice none 0 0],.bool false]) (by simp only[results,Tryz.results151];go_simp) rfl ⟨⟨1,n,⟨#[]⟩,none,0,0⟩,yb5 s.data.toList k,q.o,F.2.1,rfl,F.1⟩
end Go.Proofs.YtpagmlndgblhhaaGreatDoor
namespace Go.Va
open Go.Own Go.RowKit
def checkL (x:Val):Int:=bif (yan x 0 (0,0)).2 !=0 then(yan x 0 (0,0)).2 else bif decide (512<(yai x).length)then 2 else 0
mutual
theorem yh0:∀(x:Val) (d p:Nat),(yan x d (p,0)).2=0->(yai x).length+280*p<=280*(yan x d (p,0)).1
 | .mk k n s l,d,p,h=>by
   rw[yan]at h|-;rw[yai];simp only[bne_self_eq_false,znl]at h|-;cases h2:decide (256<=p)with
   |true=>rw[h2]at h;simp at h
   |false=>
    rw[h2]at h;simp only[znl]at h|-;have z1:=ybJ (zigL n);have C:=ybJ l.length;cases h3:(k==0||k==1)with
    |true=>
     rw[h3]at h;simp only[znm];have B:k=0\/k=1:=by simpa using h3
     rcases B with rfl|rfl<;>simp<;>omega
    |false=>
     rw[h3]at h;simp only[znl]at h|-;rw[Bool.or_eq_false_iff]at h3;rw[h3.2];cases h5:(k==2)with
     |true=>
      rw[h5]at h;simp only[znm,znl]at h|-;have D:¬256<s.size:=fun e=>by rw[show decide (256<s.size)=true from by simpa using e]at h;simp at h
      have A:=ybJ s.data.toList.length;simp[Go.Va.textB];simp at A;omega
     |false=>
      rw[h5]at h;simp only[znl]at h|-;cases h6:(k==3)with
      |true=>
       rw[h6]at h;simp only[znm]at h|-;generalize he:(bif decide (8<=d)then(30:Int)else bif decide (64<l.length)then 2 else 0)=e at h|-;by_cases hz:e=0
       .subst hz
        have:=yh1 l (d+1) (p+1) h;simp;omega
       .rw[ya3 _ _ _ (by simpa using hz)]at h
        exact absurd h hz
      |false=>rw[h6]at h;simp at h
theorem yh1:∀(l:List Val) (d p:Nat),(yan.walkL l d (p,0)).2=0->(yai.bytesL l).length+280*p<=280*(yan.walkL l d (p,0)).1
 |[],d,p,h=>by rw[ya2,ydp];simp
 |x::r,d,p,h=>by
  rw[yaO]at h|-;simp only[bne_self_eq_false,znl]at h|-;rw[ybs,znk];generalize hc:yan x d (p,0)=c at h|-;obtain⟨q,e⟩:=c;by_cases hz:e=0
  .subst hz
   have A:=yh0 x d p (by rw[hc]);have B:=yh1 r d q h;rw[hc]at A;dsimp only at A;omega
  .rw[ya3 _ _ _ (by simpa using hz)]at h
   exact absurd h hz
end
theorem yeA {x:Val}(h:(yan x 0 (0,0)).2=0):(yai x).length<=71680:=by
 have B:=yh0 x 0 0 h;have A:=ycW x 0 (0,0) (fun _=>by decide) h;omega
theorem yeQ {l:List UInt8}{v:Int}(h:Lib.parseIntB 64 l= .ok v): -9223372036854775808<=v/\v<=9223372036854775807:=by
 unfold Lib.parseIntB at h;cases l with
 |nil=>cases h
 |cons c r=>
  dsimp only at h;split at h
  .cases h
  .cases h
  .rename_i u C
   split at h
   .cases h
   .rename_i B
    split at h
    .cases h
    .rename_i A
     cases h;by_cases hn:c.toNat=45
     .simp[hn]at A|-
      omega
     .simp[hn]at B|-
      omega
theorem ykm {s:List UInt8}{k:Nat}{x:Val}{k2:Nat}(h:ygf s k= .ok x k2):x.wf:=by
 unfold ygf at h;split at h
 .rename_i v hv
  split at h
  .cases h
   have:=yeQ hv;rw[Val.wf,Val.wf.wfL];exact⟨⟨by decide,by decide⟩,this,znq _,trivial⟩
  .cases h
 .cases h
def yc0 (s:List UInt8):Val×Int:=
 match ypq 8 s 0 with
 | .deep=>(ymq,30)
 | .bad=>(ymq,8)
 | .ok x k=>if k<s.length then(ymq,8)else if checkL x≠0 then(ymq,checkL x)else(x,0)
end Go.Va
namespace Go.Proofs.YtpagmlndgblhhaaGreatDoor
open Go.RowKit Go.Own Go.Own.MapTy Go.Va Go.Sort
open Go.Own.Cells (sz enc)
theorem ybi (x:Val)(ck cn:Int)(cs:ByteArray)(la:Option Addr)(ln lc:Nat)(F:Nat->Prop)(w:World)(C:CF F w ⟨ck,cn,cs,la,ln,lc⟩ x)(hw:x.wf)(r:Int)(hr:checkL x=r):
  Calls Tryz.prog 55 #[.agg #[ck,cn,cs,.slice la ln lc]] w fun e w'=>e= .returned (.int .i64 r)/\Below w w w':=by
 have M:=C.mono (G:=fun j=>j<w) (fun j _ h=>h);have P:Keeps (fun _=>False) w ((w.alloc (.cells #[ck,cn,cs,.slice la ln lc] 38)).alloc (.cells #[.int .i64 0,.int .i64 0] 182)):=((Keeps.refl _ _).alloc _).alloc _;have R:=zhd (show Calls Tryz.prog 99 #[.pointer (some ⟨w.heap.size+1,0,none⟩),.agg #[ck,cn,cs,.slice la ln lc],.int .i64 0] _ (yhV _ (w.heap.size+1) (yan x 0 (0,0)))from yhZ x.parts x (znc _) (w.heap.size+1) 0 0 0 ⟨ck,cn,cs,la,ln,lc⟩ _ _ (show CX _ (w.heap.size+1) (0,0)from yat) (M.keep P (fun _ _ f=>f)) (by omega) (by omega) (fun _=>by omega));have I:=zh3 M hw hr;clear C M hw hr P;go_in;go_wp2_with fail;refine R.o.mono ?_;rintro e A ⟨rfl,N,H⟩;have q:∀o,A.cell? ⟨w,o,none⟩=(#[.int .i64 ck,.int .i64 cn,.string cs,.slice la ln lc]:Array Value)[o]? :=fun o=>by
  rw[H.cell (p:=⟨w,o,none⟩) (by simp;omega) (show¬w.heap.size=w.heap.size+1 by omega),zch yaD]
 have a:=q 0;have Z:=q 1;have Y:=q 2;have X:=q 3;simp only[zmc,zma,zmb]at a Z Y X;have c1:=N.c1;have J:=H.size;simp at J;have W:w<A.heap.size:=by omega
 have K:=zhd (show Below w w A from(((zal).alloc (by simp) _).trans (H.below (B:=w.heap.size) (by simp;omega) (fun k hk e=>by omega))));clear q R N H;generalize hc:yan x 0 (0,0)=c at*;cases he:(c.2 !=0)with
 |true=>
  have hr:=I.o.2.2;unfold checkL at hr;rw[hc,he]at hr;simp only[znm]at hr;have D:=zhd hr;clear hr hc;go_wp2;go_ret;exact⟨by rw[<-D.o];rfl,K.o⟩
 |false=>
  have hr:=I.o.2.2;unfold checkL at hr;rw[hc,he]at hr;simp only[znl]at hr;have i:=yeA (x:=x) (by rw[hc];simpa using he);have U:=I.o.1.keep (zkb (S:=fun _=>False) K.o) (fun _ _ f=>f);have O:WB (A.alloc (.cells #[.slice none 0 0] 131)) A.heap.size []:=⟨none,0,znb _ _,RowAt.nil _ _,fun e=>by cases e⟩;have T:=U.keep (S:=fun _=>False) ((Keeps.refl _ _).alloc (.cells #[.slice none 0 0] 131)) (fun _ _ f=>f);have Q:=zhd (ydN x.parts x (znc _) A.heap.size [] ⟨ck,cn,cs,la,ln,lc⟩ _ _ O T (fun j h=>⟨by omega,fun⟨v,h1,h2⟩=>by
   rw[znb]at h1;cases h1;cases h2⟩) I.o.2.1 (by simp;omega))
  have D:=zhd hr;clear hr hc U T O;go_wp2_with fail;refine Q.o.mono ?_;rintro e V ⟨rfl,L⟩;rw[List.nil_append]at L;have E:=zhd (show Below w w V from(K.o.alloc (by omega) _).trans (L.o.2.1.below (B:=w.heap.size) (by simp;omega) (fun k hk e=>e.elim (fun e=>by omega) (fun⟨v,h1,h2⟩=>by
   rw[znb]at h1;cases h1;cases h2))))
  have d:=zhd (ynk A.heap.size _ _ L.o.1);clear Q;go_wp2_with fail;refine d.o.mono ?_;rintro e g ⟨rfl,rfl⟩;generalize hn:(yai x).length=n at*;cases hg:decide (512<n)with
  |true=>
   rw[hg]at D;have b:(512:Int)<n:=by have:=znx hg;omega
   clear hn hg;go_wp2;go_ret;exact⟨by rw[<-D.o];rfl,E.o⟩
  |false=>
   rw[hg]at D;have b:¬(512:Int)<n:=by have:=zny hg;omega
   clear hn hg;go_wp2;go_ret;exact⟨by rw[<-D.o];rfl,E.o⟩
theorem yiL {w W:World}(h:Below w w W)(x0 x1 x2 x3:Value):Below w w ((((W.setCell ⟨w,0,none⟩ x0).setCell ⟨w,1,none⟩ x1).setCell ⟨w,2,none⟩ x2).setCell ⟨w,3,none⟩ x3):=
 (((h.setCell (znc _) _).setCell (znc _) _).setCell (znc _) _).setCell (znc _) _
theorem ypD (B:Nat)(W:World)(x0 x1 x2 x3:Value):Keeps (fun j=>j=B) W ((((W.setCell ⟨B,0,none⟩ x0).setCell ⟨B,1,none⟩ x1).setCell ⟨B,2,none⟩ x2).setCell ⟨B,3,none⟩ x3):=
 ((((Keeps.refl (fun j=>j=B) W).setCell (p:=⟨B,0,none⟩) (.inl rfl) x0).setCell (p:=⟨B,1,none⟩) (.inl rfl) x1).setCell (p:=⟨B,2,none⟩) (.inl rfl) x2).setCell (p:=⟨B,3,none⟩) (.inl rfl) x3
def yo7 (w:World)(r:Val×Int)(e:Ending)(w':World):Prop:=
 ∃c:VC,e= .returned (.tuple #[.agg #[c.kind,c.n,c.s,.slice c.la c.ln c.lc],.int .i64 r.2])/\CF (fun j=>w<=j) w' c r.1/\Below w w w'
end Go.Proofs.YtpagmlndgblhhaaGreatDoor
namespace Go.Va
open Go.Own Go.RowKit
def yne (s:List UInt8):Option Nat:=
 match Lib.atoiAll s with
 | .ok v=>if 0<=v/\v<100/\Lib.decDigits v.toNat=s then some v.toNat else none
 |_=>none
def ym6 (s:List UInt8):Option ByteArray:=if(yc0 s).2=0/\(yc0 s).1.kind=2 then some (yc0 s).1.txt else none
end Go.Va
