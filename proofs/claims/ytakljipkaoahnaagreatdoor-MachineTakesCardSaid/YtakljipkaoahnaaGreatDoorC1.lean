/- Parts of the proof: what the functions and the plain laws give that later parts lean on. Conditions: none beyond those that each theorem names. -/
import Derived.BigGuardPart
import Derived.Test.YtakljipkaoahnaaGreatDoorB24
set_option maxRecDepth 100000
set_option maxHeartbeats 8000000
namespace Go.Own
open Go.RowKit Go.Own.MapTy
@[go_sem] theorem same_drew (w:World) (k:Nat) (W:World):Same w k W.drew↔Same w k W:=Iff.rfl
end Go.Own
namespace Go.Own
open Go.RowKit Go.Own.MapTy
open Cells (sz enc)
theorem bcell {W w1:World}(hb:Below W.heap.size W w1):(∀b o,b<W.heap.size→w1.cell? ⟨b,o,none⟩=W.cell? ⟨b,o,none⟩)∧(∀b o,b<W.heap.size→w1.frozen? ⟨b,o,none⟩=W.frozen? ⟨b,o,none⟩):=
 ⟨fun b o h=>hb.cell (p:=⟨b,o,none⟩) h,fun b o h=>hb.frozen (p:=⟨b,o,none⟩) h⟩
theorem wp_apps {α:Type}[Cells α]{P:Program}{t e:TypeId}{bytes:Nat}(E:ElemOf α P t e bytes){W:World}{ops:Array Oper}{rest:List Oper}{o:Oper}{a:Act}{Q:Exit→Act→World→Prop}
  (hg:o.guard=none)(s x:Operand)(hop:o.op=Op.call {callee:=Callee.builtin Builtin.append,args:=#[s,x],argTypes:=#[t,t]})
  {v u:Value}(hs:a.eval s=v)(hx:a.eval x=u){xs ys:List α}(h:RowAt W e v xs)(hu:RowAt W e u ys)
  (hl:(xs.length+ys.length)*bytes≤140737488355328)(h63:xs.length+ys.length≤maxLen)
  (hK:∀a1 q1 w1,RowAt w1 e (.slice a1 (xs.length+ys.length) q1) (xs++ys)→Keeps (fun j=>v.ownBlock=some j) W w1→(∀g,(Value.slice a1 (xs.length+ys.length) q1).ownBlock=some g→v.ownBlock=some g∨W.heap.size≤g)→wpList P ops Q rest (a.put o.dst (.slice a1 (xs.length+ys.length) q1)) w1):
  wpList P ops Q (o::rest) a W:=
 wpList_plain hg fun _ hk=>by
  obtain⟨a1,q1,w1,hr,hr1,hk1,hf1⟩:=run_apps E h hu hl h63 o.type
  unfold Oper.wp execOp
  simp only[hop,resolve,invoke,builtin,Sem.run_bind,Sem.run_pure,Result.andThen_ok,List.map_toArray,List.map_cons,List.map_nil,hs,hx,hr]
  exact hk _ _ (hK a1 q1 w1 hr1 hk1 hf1)
end Go.Own
namespace Go.Proofs.YtakljipkaoahnaaGreatDoor
open Go.RowKit Go.Own Go.Own.MapTy Go.Va Go.Sort
open Go.Own.Cells (sz enc)
def numS (n:Nat):ByteArray:=⟨(numB n).toArray⟩
theorem numS_size (n:Nat):(numS n).size≤11:=by
 have:=numB_len n
 show(numB n).toArray.size≤11
 simpa using this
theorem numS_small {n:Nat}(h:n<128):numS n=⟨#[UInt8.ofNat n]⟩:=by unfold numS;rw[numB_small h]
theorem numS_big {n:Nat}(h:128≤n)(hn:n<18446744073709551616):(⟨#[UInt8.ofNat (n%128+128)]⟩++numS (n/128):ByteArray)=numS n:=by
 apply ByteArray.ext
 unfold numS
 rw[numB_big h hn,ByteArray.data_append]
 simp
theorem num_small (n:Nat)(hn:n<128)(w:World):Calls Tryz.prog 128 #[.int .u64 n] w fun e w'=>e= .returned (.string (numS n))∧Below w.heap.size w w':=by
 have h1:(n:Int)<128:=by omega
 have hc:IntKind.u8.wrap (n:Int)=n:=by simp[IntKind.wrap,IntKind.bits,IntKind.signed];omega
 have HN:=zhd (numS_small hn)
 go_enter Tryz.func128,Tryz.ntmps128
 go_wp2_with fail
 refine bodyPost_ret (v:=.string ⟨#[UInt8.ofNat n]⟩) (by simp only[results,Tryz.results128];go_simp) rfl ⟨by rw[HN.out],zal⟩
theorem num_big (n:Nat)(h:128≤n)(hn:n<18446744073709551616)(w:World)(IH:∀W,Calls Tryz.prog 128 #[.int .u64 (n/128:Nat)] W fun e w'=>e= .returned (.string (numS (n/128)))∧Below W.heap.size W w'):Calls Tryz.prog 128 #[.int .u64 n] w fun e w'=>e= .returned (.string (numS n))∧Below w.heap.size w w':=by
 have h1:decide ((n:Int)<128)=false:=decide_eq_false (by omega)
 have HN:=zhd (numS_big h hn)
 have hz:¬9223372036854775807<1+(numS (n/128)).size:=by have:=numS_size (n/128);omega
 have IH:=zhd (show∀W,Calls Tryz.prog 128 #[.int .u64 (IntKind.u64.wrap ((n:Int)/128))] W fun e w'=>e= .returned (.string (numS (n/128)))∧Below W.heap.size W w' from by
  have e3:IntKind.u64.wrap ((n:Int)/128)=((n/128:Nat):Int):=by simp[IntKind.wrap,IntKind.bits,IntKind.signed];omega
  rw[e3];exact IH)
 have ht:(n:Int).tmod 128=((n%128:Nat):Int):=rfl
 obtain⟨m,hm⟩:∃m,m=n%128+128:=⟨_,rfl⟩
 have hm2:m<256:=by omega
 rw[←hm]at HN
 have e1:IntKind.u64.wrap (((n:Int).tmod 128)+128)=(m:Int):=by rw[ht];simp[IntKind.wrap,IntKind.bits,IntKind.signed];omega
 have e2:IntKind.u8.wrap (m:Int)=m:=by simp[IntKind.wrap,IntKind.bits,IntKind.signed];omega
 clear hm hn h ht
 go_enter Tryz.func128,Tryz.ntmps128
 go_wp2_with fail
 go_region_law ((go_simp;go_at_call 128;refine(IH.out _).mono ?_;rintro e w5 ⟨rfl,hB5⟩;have C5:=bcell hB5;try simp only[go_sem]at C5))
 all_goals
  clear C5
  go_wp2_with fail
  refine bodyPost_ret (v:=.string (⟨#[UInt8.ofNat m]⟩++numS (n/128))) (by simp only[results,Tryz.results128];go_simp) rfl ⟨by rw[HN.out],?_⟩
  first
  |exact((zal).drew).trans (hB5.mono (by simp))
  |exact((Below.refl _ _).drew.trans (hB5.mono (by simp))).alloc hB5.size _
theorem num_any2:∀(n:Nat),n<18446744073709551616→∀w:World,Calls Tryz.prog 128 #[.int .u64 n] w fun e w'=>e= .returned (.string (numS n))∧Below w.heap.size w w':=fun n=>by
 induction n using Nat.strongRecOn with
 |_ n ih=>
  intro hn w
  by_cases h:n<128
  ·exact num_small n h w
  ·exact num_big n (by omega) hn w (fun W=>ih (n/128) (by omega) (by omega) W)
end Go.Proofs.YtakljipkaoahnaaGreatDoor
namespace Go.Va
open Go.Own Go.RowKit
theorem VF.els {F:Nat→Prop}{w:World}{la:Option Addr}{ln lc:Nat}{l:List Val}(h:VF F w (.slice la ln lc) l):∃g off,ELs F w la ln l g off:=by
 obtain⟨h4,h5,h6⟩:=h.elems
 rcases h6 with h6|⟨g,off,hla,hFg,hg,h6⟩
 ·exact⟨0,0,h4,h5,.inr h6,fun i y hy=>by rw[h6]at hy;simp at hy⟩
 ·exact⟨g,off,h4,h5,.inl hla,fun i y hy=>⟨hFg,hg,h6 i y hy⟩⟩
theorem ELs.get {F:Nat→Prop}{w:World}{la:Option Addr}{ln:Nat}{l:List Val}{g off:Nat}(h:ELs F w la ln l g off){wr:World}(B:Below w.heap.size w wr){i:Nat}(hi:i<ln):
  ∃z c,l[i]? =some z∧la=some ⟨g,off,none⟩∧l.drop i=z::l.drop (i+1)∧g<wr.heap.size∧CF F wr c z∧
   wr.cell? ⟨g,off+i*4,none⟩=some (.int .i64 c.kind)∧wr.cell? ⟨g,off+i*4+1,none⟩=some (.int .i64 c.n)∧wr.cell? ⟨g,off+i*4+2,none⟩=some (.string c.s)∧wr.cell? ⟨g,off+i*4+3,none⟩=some (.slice c.la c.ln c.lc):=by
 obtain⟨z,hz⟩:=elem_at (l:=l) (k:=i) (by have:=h.len;omega)
 obtain⟨_,hg,c,hC,q0,q1,q2,q3⟩:=h.at_ i z hz
 rw[←B.cell (p:=⟨g,_,none⟩) hg]at q0 q1 q2 q3
 exact⟨z,c,hz,h.addr.resolve_right (fun e=>by rw[e]at hz;simp at hz),by
  rw[List.drop_eq_getElem_cons (zge hz).1,(zge hz).2],Nat.lt_of_lt_of_le hg B.size,hC.keep (S:=fun _=>False) (zkb B) (fun _ _ f=>f),q0,q1,q2,q3⟩
end Go.Va
namespace Go.Proofs.YtakljipkaoahnaaGreatDoor
open Go.RowKit Go.Own Go.Own.MapTy Go.Va Go.Sort
open Go.Own.Cells (sz enc)
theorem rwalk_many (x:Val)
  (d p:Nat)(hd:d≤8)(hp:p≤256)(ck cn:Int)(cs:ByteArray)(la:Option Addr)(ln lc:Nat)(F:Nat→Prop)(w:World)(C:CF F w ⟨ck,cn,cs,la,ln,lc⟩ x)
  (h:256≤p)(r:Nat×Int)(hr:r=(p+1,2)):
  Calls Tryz.prog 90 #[.agg #[.int .i64 ck,.int .i64 cn,.string cs,.slice la ln lc],.int .i64 d,.int .i64 p] w (RWPost w r)
  :=by
 have hh:=zai hd C
 clear hh
 subst hr
 obtain rfl:p=256:=by omega
 clear C
 go_enter Tryz.func90,Tryz.ntmps90
 go_wp2_with fail
 refine bodyPost_ret (v:=.tuple #[.int .i64 2,.int .i64 257]) (by simp only[results,Tryz.results90];go_simp) rfl ⟨rfl,zal⟩
theorem rwalk_one (x:Val)
  (d p:Nat)(hd:d≤8)(hp:p≤256)(ck cn:Int)(cs:ByteArray)(la:Option Addr)(ln lc:Nat)(F:Nat→Prop)(w:World)(C:CF F w ⟨ck,cn,cs,la,ln,lc⟩ x)
  (h:¬256≤p)(hk:ck=0∨ck=1)(r:Nat×Int)(hr:r=(p+1,0)):
  Calls Tryz.prog 90 #[.agg #[.int .i64 ck,.int .i64 cn,.string cs,.slice la ln lc],.int .i64 d,.int .i64 p] w (RWPost w r)
  :=by
 have hh:=zai hd C
 clear hh
 subst hr
 clear C
 have h2:¬(256:Int)<(p:Int)+1:=by omega
 rcases hk with rfl|rfl
 ·go_enter Tryz.func90,Tryz.ntmps90
  go_wp2_with fail
  refine bodyPost_ret (v:=.tuple #[.int .i64 0,.int .i64 ((p:Int)+1)]) (by simp only[results,Tryz.results90];go_simp) rfl ⟨rfl,zal⟩
 ·go_enter Tryz.func90,Tryz.ntmps90
  go_wp2_with fail
  refine bodyPost_ret (v:=.tuple #[.int .i64 0,.int .i64 ((p:Int)+1)]) (by simp only[results,Tryz.results90];go_simp) rfl ⟨rfl,zal⟩
theorem rwalk_text (x:Val)
  (d p:Nat)(hd:d≤8)(hp:p≤256)(ck cn:Int)(cs:ByteArray)(la:Option Addr)(ln lc:Nat)(F:Nat→Prop)(w:World)(C:CF F w ⟨ck,cn,cs,la,ln,lc⟩ x)
  (h:¬256≤p)(hk:ck=2)(r:Nat×Int)(hr:r=(p+1,bif decide (256<cs.size)then 2 else 0)):
  Calls Tryz.prog 90 #[.agg #[.int .i64 ck,.int .i64 cn,.string cs,.slice la ln lc],.int .i64 d,.int .i64 p] w (RWPost w r)
  :=by
 have hh:=zai hd C
 clear hh
 subst hr
 subst hk
 clear C
 have h2:¬(256:Int)<(p:Int)+1:=by omega
 cases hc:decide (256<cs.size)with
 |true=>
  have h3:(256:Int)<(cs.size:Int):=by have:=of_decide_eq_true hc;omega
  clear hc
  go_enter Tryz.func90,Tryz.ntmps90
  go_wp2_with fail
  refine bodyPost_ret (v:=.tuple #[.int .i64 2,.int .i64 ((p:Int)+1)]) (by simp only[results,Tryz.results90];go_simp) rfl ⟨rfl,zal⟩
 |false=>
  have h3:¬(256:Int)<(cs.size:Int):=by have:=of_decide_eq_false hc;omega
  clear hc
  go_enter Tryz.func90,Tryz.ntmps90
  go_wp2_with fail
  refine bodyPost_ret (v:=.tuple #[.int .i64 0,.int .i64 ((p:Int)+1)]) (by simp only[results,Tryz.results90];go_simp) rfl ⟨rfl,zal⟩
theorem rwalk_kind (x:Val)
  (d p:Nat)(hd:d≤8)(hp:p≤256)(ck cn:Int)(cs:ByteArray)(la:Option Addr)(ln lc:Nat)(F:Nat→Prop)(w:World)(C:CF F w ⟨ck,cn,cs,la,ln,lc⟩ x)
  (h:¬256≤p)(k0:(ck==0)=false)(k1:(ck==1)=false)(k2:(ck==2)=false)(k3:(ck==3)=false)(r:Nat×Int)(hr:r=(p+1,9)):
  Calls Tryz.prog 90 #[.agg #[.int .i64 ck,.int .i64 cn,.string cs,.slice la ln lc],.int .i64 d,.int .i64 p] w (RWPost w r)
  :=by
 have hh:=zai hd C
 clear hh
 subst hr
 clear C
 have h2:¬(256:Int)<(p:Int)+1:=by omega
 go_enter Tryz.func90,Tryz.ntmps90
 go_wp2_with fail
 refine bodyPost_ret (v:=.tuple #[.int .i64 9,.int .i64 ((p:Int)+1)]) (by simp only[results,Tryz.results90];go_simp) rfl ⟨rfl,zal⟩
theorem rwalk_deep (x:Val)
  (d p:Nat)(hd:d≤8)(hp:p≤256)(ck cn:Int)(cs:ByteArray)(la:Option Addr)(ln lc:Nat)(F:Nat→Prop)(w:World)(C:CF F w ⟨ck,cn,cs,la,ln,lc⟩ x)
  (h:¬256≤p)(k3:ck=3)(h8:8≤d∨64<ln)(r:Nat×Int)(hr:r=(p+1,bif decide (8≤d)then 30 else 2)):
  Calls Tryz.prog 90 #[.agg #[.int .i64 ck,.int .i64 cn,.string cs,.slice la ln lc],.int .i64 d,.int .i64 p] w (RWPost w r)
  :=by
 have hh:=zai hd C
 clear hh
 subst hr
 subst k3
 clear C
 have h2:¬(256:Int)<(p:Int)+1:=by omega
 cases hc:decide (8≤d)with
 |true=>
  have h3:(8:Int)≤d:=by have:=of_decide_eq_true hc;omega
  clear hc
  go_enter Tryz.func90,Tryz.ntmps90
  go_wp2_with fail
  refine bodyPost_ret (v:=.tuple #[.int .i64 30,.int .i64 ((p:Int)+1)]) (by simp only[results,Tryz.results90];go_simp) rfl ⟨rfl,zal⟩
 |false=>
  have h3:¬(8:Int)≤d:=by have:=of_decide_eq_false hc;omega
  have h4:(64:Int)<ln:=by have:=of_decide_eq_false hc;omega
  clear hc
  go_enter Tryz.func90,Tryz.ntmps90
  go_wp2_with fail
  refine bodyPost_ret (v:=.tuple #[.int .i64 2,.int .i64 ((p:Int)+1)]) (by simp only[results,Tryz.results90];go_simp) rfl ⟨rfl,zal⟩
def RWIH (n:Nat):Prop:=∀(x:Val),x.parts≤n→∀(d p:Nat),d≤8→p≤256→∀(ck cn:Int) (cs:ByteArray) (la:Option Addr) (ln lc:Nat) (F:Nat→Prop) (w:World),CF F w ⟨ck,cn,cs,la,ln,lc⟩ x→
 Calls Tryz.prog 90 #[.agg #[.int .i64 ck,.int .i64 cn,.string cs,.slice la ln lc],.int .i64 d,.int .i64 p] w (RWPost w (walkV x d (p,0)))
theorem rwalk_list (n:Nat)(IH:RWIH n)(x:Val)(hx:x.parts≤n+1)
  (d p:Nat)(hd:d≤8)(hp:p≤256)(ck cn:Int)(cs:ByteArray)(la:Option Addr)(ln lc:Nat)(F:Nat→Prop)(w:World)(C:CF F w ⟨ck,cn,cs,la,ln,lc⟩ x)
  (h:¬256≤p)(k3:ck=3)(h8:¬8≤d)(h64:¬64<ln)(g off:Nat)(E:ELs F w la ln x.list g off)(r:Nat×Int)(hr:walkV.walkL x.list (d+1) (p+1,0)=r):
  Calls Tryz.prog 90 #[.agg #[.int .i64 ck,.int .i64 cn,.string cs,.slice la ln lc],.int .i64 d,.int .i64 p] w (RWPost w r)
  :=by
 have hh:=zai hd C
 clear hh
 subst k3
 have HE:=zhd E
 have HI:=zhd IH
 have HR:=zhd hr
 have HL:=zhd E.len
 clear C E IH hr
 have h2:¬(256:Int)<(p:Int)+1:=by omega
 have h3:¬(8:Int)≤d:=by omega
 have h4:¬(64:Int)<ln:=by omega
 have hdw:wrap64 ((d:Int)+1)=(d:Int)+1:=by unfold wrap64;omega
 go_enter Tryz.func90,Tryz.ntmps90
 go_wp2_with fail
 obtain⟨w1,hw1⟩:∃w1,w1=w.alloc (.cells #[.int .i64 3,.int .i64 cn,.string cs,.slice la ln lc] 39):=⟨_,rfl⟩
 have p3:=zha hw1
 have B1:=zba hw1
 rw[←hw1]
 have H1:=zh2 p3 B1
 clear hw1 p3 B1
 go_loopg [8,2] (x.list.length) (fun gk v8 v2 wr=>∃i q:Nat,v8= .int .i64 i∧v2= .int .i64 q∧i≤x.list.length∧q≤256∧gk=x.list.length - i∧Hid (walkV.walkL (x.list.drop i) (d+1) (q,0)=r∧Below w1.heap.size w1 wr))
 case atStart=>exact⟨0,p+1,rfl,by simp,Nat.zero_le _,by omega,rfl,zhd ⟨HR.out,Below.refl _ _⟩⟩
 case round=>
  obtain⟨i,q,rfl,rfl,hi,hq,hgk,HX⟩:=hrel
  have BW:=H1.out.2.trans (HX.out.2.mono H1.out.2.size)
  have b3:=(HX.out.2.block _ (zlt H1.out.1)).trans H1.out.1
  have p3:=zca b3 3 rfl
  have s0:=zlt b3
  clear b3
  by_cases hin:i<ln
  ·obtain⟨z,c',hz,hla,hdr,hgl,hC,q0,q1,q2,q3⟩:=HE.out.get BW hin
   have hin':(i:Int)<ln:=by omega
   have hw:=HX.out.1
   rw[hdr,walkL_cons]at hw
   have CA:=zhd (HI.out z (by have:=Val.parts_lt (v:=x) (zmg hz);omega) (d+1) q (by omega) hq c'.kind c'.n c'.s c'.la c'.ln c'.lc F wr hC)
   have hbd:=walkV_bd z (d+1) (q,0) (fun _=>hq)
   obtain⟨q1',e1,hv⟩:∃(a:Nat) (b:Int),walkV z (d+1) (q,0)=(a,b):=⟨_,_,rfl⟩
   rw[hv]at CA hbd hw
   have hw:walkV.walkL (x.list.drop (i+1)) (d+1) (q1',e1)=r:=hw
   have HH:=zh5 hbd hw BW hgk (zge hz).1
   subst hla
   clear hz hC hdr hbd hw BW hv hgk
   go_wp2_with fail
   refine CA.out.mono ?_
   rintro e w5 ⟨rfl,hB5⟩
   have H5:=zhd hB5
   clear hB5
   cases he:(e1==0)with
   |true=>
    obtain rfl:e1=0:=by simpa using he
    clear he
    go_wp2_with fail
    go_roundg (x.list.length - (i+1))
    case measure=>have:=HH.out.2.2.2.1;have:=HH.out.2.2.2.2;omega
    case rel=>exact⟨i+1,q1',by simp,rfl,HH.out.2.2.2.2,HH.out.1 (by trivial),rfl,zhd ⟨HH.out.2.1,HX.out.2.trans (H5.out.mono HX.out.2.size)⟩⟩
   |false=>
    go_wp2_with fail
    refine bodyPost_ret (v:=.tuple #[.int .i64 e1,.int .i64 q1']) (by simp only[results,Tryz.results90];go_simp) rfl ⟨?_,HH.out.2.2.1.trans (H5.out.mono HH.out.2.2.1.size)⟩
    have hw:=HH.out.2.1
    rw[walkL_err _ _ _ (by show(e1 !=0)=true;simpa using he)]at hw
    rw[←hw]
  ·obtain rfl:i=ln:=by have:=HL.out;omega
   have hxn:x.list.drop i=[]:=List.drop_eq_nil_of_le (by have:=HL.out;omega)
   have hw:=HX.out.1
   rw[hxn,walkL_nil]at hw
   have HH:=zh2 hw BW
   clear hw BW hgk hxn
   have e3:¬(i:Int)<i:=by omega
   go_wp2_with fail
   refine bodyPost_ret (v:=.tuple #[.int .i64 0,.int .i64 q]) (by simp only[results,Tryz.results90];go_simp) rfl ⟨?_,HH.out.2⟩
   rw[←HH.out.1]
theorem rwalk_any:∀n,RWIH n
 |0=>fun x h=>by have:=x.parts_pos;omega
 |n+1=>fun x hx d p hd hp ck cn cs la ln lc F w C=>by
  have h1:ck=x.kind:=C.kind
  have h3:cs=x.txt:=C.s
  obtain⟨g,off,E⟩:=C.l.els
  have hr:=walkV_eq x d p 0
  rw[←h1,←h3,←E.len]at hr
  have hr:walkV x d (p,0)=bif decide (256≤p)then(p+1,2)else bif ck==0||ck==1 then(p+1,0)else bif ck==2 then(p+1,bif decide (256<cs.size)then 2 else 0)else bif ck==3 then walkV.walkL x.list (d+1) (p+1,bif decide (8≤d)then 30 else bif decide (64<ln)then 2 else 0)else(p+1,9):=hr
  by_cases hp2:256≤p
  ·rw[decide_eq_true hp2]at hr
   exact rwalk_many x d p hd hp ck cn cs la ln lc F w C hp2 _ hr
  ·rw[decide_eq_false hp2,cond_false]at hr
   by_cases k0:ck=0∨ck=1
   ·rw[show(ck==0||ck==1)=true by simpa using k0]at hr
    exact rwalk_one x d p hd hp ck cn cs la ln lc F w C hp2 k0 _ hr
   ·rw[show(ck==0||ck==1)=false by simpa using k0,cond_false]at hr
    by_cases k2:ck=2
    ·rw[show(ck==2)=true by simpa using k2]at hr
     exact rwalk_text x d p hd hp ck cn cs la ln lc F w C hp2 k2 _ hr
    ·rw[show(ck==2)=false by simpa using k2,cond_false]at hr
     by_cases k3:ck=3
     ·rw[show(ck==3)=true by simpa using k3,cond_true]at hr
      by_cases h8:8≤d
      ·rw[decide_eq_true h8,cond_true,walkL_err _ _ _ rfl]at hr
       exact rwalk_deep x d p hd hp ck cn cs la ln lc F w C hp2 k3 (.inl h8) _ (by rw[decide_eq_true h8];exact hr)
      ·rw[decide_eq_false h8,cond_false]at hr
       by_cases h64:64<ln
       ·rw[decide_eq_true h64,cond_true,walkL_err _ _ _ rfl]at hr
        exact rwalk_deep x d p hd hp ck cn cs la ln lc F w C hp2 k3 (.inr h64) _ (by rw[decide_eq_false h8];exact hr)
       ·rw[decide_eq_false h64,cond_false]at hr
        exact rwalk_list n (rwalk_any n) x hx d p hd hp ck cn cs la ln lc F w C hp2 k3 h8 h64 g off E _ hr.symm
     ·rw[show(ck==3)=false by simpa using k3,cond_false]at hr
      exact rwalk_kind x d p hd hp ck cn cs la ln lc F w C hp2 (by simpa using fun e=>k0 (.inl e)) (by simpa using fun e=>k0 (.inr e)) (by simpa using k2) (by simpa using k3) _ hr
theorem rint_any (n:Int)(h0: -9223372036854775808≤n)(h1:n≤9223372036854775807)(w:World):Calls Tryz.prog 126 #[.int .i64 n] w fun e w'=>e= .returned (.string (numS (zigL n)))∧Below w.heap.size w w':=by
 have hz:=zigL_lt h0 h1
 by_cases hn:0≤n
 ·have hc:IntKind.u64.wrap n=n:=by simp[IntKind.wrap,IntKind.bits,IntKind.signed];omega
  have hd:n*2=((zigL n:Nat):Int):=by
   unfold zigL
   rw[if_pos hn]
   omega
  have NA:=zhd (fun W=>num_any2 (zigL n) hz W)
  generalize zigL n=z at*
  have HD:=zhd hd
  clear hd
  go_enter Tryz.func126,Tryz.ntmps126
  go_wp2_with fail
  rw[HD.out]
  refine(NA.out _).mono ?_
  rintro e w1 ⟨rfl,hB1⟩
  have H1:=zhd hB1
  clear hB1
  go_wp2_with fail
  go_ret
  exact⟨rfl,H1.out⟩
 ·have hw:wrap64 (n+1)=n+1:=by unfold wrap64;omega
  have hw2:wrap64 (-(n+1))= -(n+1):=by unfold wrap64;omega
  have hc:IntKind.u64.wrap (-(n+1))= -(n+1):=by simp[IntKind.wrap,IntKind.bits,IntKind.signed];omega
  have hm:IntKind.u64.wrap (-(n+1)*2)= -(n+1)*2:=by simp[IntKind.wrap,IntKind.bits,IntKind.signed];omega
  have hd: -(n+1)*2+1=((zigL n:Nat):Int):=by
   unfold zigL
   rw[if_neg hn]
   omega
  have NA:=zhd (fun W=>num_any2 (zigL n) hz W)
  generalize zigL n=z at*
  have HD:=zhd hd
  clear hd
  go_enter Tryz.func126,Tryz.ntmps126
  go_wp2_with fail
  rw[HD.out]
  refine(NA.out _).mono ?_
  rintro e w1 ⟨rfl,hB1⟩
  have H1:=zhd hB1
  clear hB1
  go_wp2_with fail
  go_ret
  exact⟨rfl,H1.out⟩
def textS (s:ByteArray):ByteArray:=⟨(Go.Va.textB s.data.toList).toArray⟩
theorem textS_eq (s:ByteArray):numS s.size++s=textS s:=by
 apply ByteArray.ext
 unfold numS textS Go.Va.textB
 rw[ByteArray.data_append]
 simp
theorem rtext_any (s:ByteArray)(hs:s.size≤1099511627776)(w:World):Calls Tryz.prog 127 #[.string s] w fun e w'=>e= .returned (.string (textS s))∧Below w.heap.size w w':=by
 have NA:=zhd (fun W=>num_any2 s.size (by omega) W)
 have hc:IntKind.u64.wrap (s.size:Int)=s.size:=by simp[IntKind.wrap,IntKind.bits,IntKind.signed];omega
 have HT:=zhd (textS_eq s)
 have hz:=numS_size s.size
 go_enter Tryz.func127,Tryz.ntmps127
 go_wp2_with fail
 refine(NA.out _).mono ?_
 rintro e w1 ⟨rfl,hB1⟩
 have H1:=zhd hB1
 clear hB1
 generalize numS s.size=ns at*
 go_wp2_with fail
 go_ret
 exact⟨by rw[HT.out];rfl,H1.out⟩
theorem bytesS_size (x:Val):(bytesS x).size=(bytesV x).length:=by
 show(bytesV x).toArray.size=_
 simp
theorem kind_byte (k:Int):IntKind.u8.wrap k=k%256:=by simp[IntKind.wrap,IntKind.bits,IntKind.signed]
def BIH (n:Nat):Prop:=∀(x:Val),x.parts≤n→∀(ck cn:Int) (cs:ByteArray) (la:Option Addr) (ln lc:Nat) (F:Nat→Prop) (w:World),CF F w ⟨ck,cn,cs,la,ln,lc⟩ x→x.wf→(bytesV x).length≤1099511627776→
 Calls Tryz.prog 91 #[.agg #[.int .i64 ck,.int .i64 cn,.string cs,.slice la ln lc]] w fun e w'=>e= .returned (.string (bytesS x))∧Below w.heap.size w w'
theorem rbytes_other (x:Val)
  (ck cn:Int)(cs:ByteArray)(la:Option Addr)(ln lc:Nat)(F:Nat→Prop)(w:World)(C:CF F w ⟨ck,cn,cs,la,ln,lc⟩ x)(hw:x.wf)(hl:(bytesV x).length≤1099511627776)
  (k1:(ck==1)=false)(k2:(ck==2)=false)(k3:(ck==3)=false):
  Calls Tryz.prog 91 #[.agg #[.int .i64 ck,.int .i64 cn,.string cs,.slice la ln lc]] w fun e w'=>e= .returned (.string (bytesS x))∧Below w.heap.size w w'
  :=by
 have hh:=zai hw hl
 clear hh
 have h1:ck=x.kind:=C.kind
 have HB:Hid (bytesS x=⟨#[UInt8.ofNat (ck%256).toNat]⟩):=zhd (by
  unfold bytesS
  rw[bytesV_eq,←h1,k1,k2,k3]
  rfl)
 have kb:=kind_byte ck
 generalize ck%256=kb1 at*
 clear C hw hl h1
 go_enter Tryz.func91,Tryz.ntmps91
 go_wp2_with fail
 go_ret
 exact⟨by rw[HB.out];rfl,(zal).alloc (by simp) _⟩
theorem rbytes_int (x:Val)
  (ck cn:Int)(cs:ByteArray)(la:Option Addr)(ln lc:Nat)(F:Nat→Prop)(w:World)(C:CF F w ⟨ck,cn,cs,la,ln,lc⟩ x)(hw:x.wf)(hl:(bytesV x).length≤1099511627776)
  (k1:ck=1):
  Calls Tryz.prog 91 #[.agg #[.int .i64 ck,.int .i64 cn,.string cs,.slice la ln lc]] w fun e w'=>e= .returned (.string (bytesS x))∧Below w.heap.size w w'
  :=by
 have hh:=zai hw hl
 clear hh
 have h1:ck=x.kind:=C.kind
 have h2:cn=x.num:=C.n
 have hb:=((Val.wf_eq x).1 hw).2.1
 rw[←h2]at hb
 subst k1
 have HB:Hid ((⟨#[UInt8.ofNat 1]⟩++numS (zigL cn):ByteArray)=bytesS x):=zhd (by
  apply ByteArray.ext
  unfold bytesS numS
  rw[bytesV_eq,←h1,←h2,ByteArray.data_append]
  simp)
 have IA:=zhd (fun W=>rint_any cn hb.1 hb.2 W)
 have hz:=numS_size (zigL cn)
 generalize numS (zigL cn)=ns at*
 clear C hw hl h1 h2 hb
 go_enter Tryz.func91,Tryz.ntmps91
 go_wp2_with fail
 refine(IA.out _).mono ?_
 rintro e w5 ⟨rfl,hB5⟩
 have H5:=zhd (((Below.refl w.heap.size w).alloc (Nat.le_refl _) (.cells #[.int .i64 1,.int .i64 cn,.string cs,.slice la ln lc] 39)).trans (((Below.refl _ _).alloc (Nat.le_refl _) (.cells #[.int .u8 1] 5)).trans (hB5.mono (by simp))|>.mono (by simp)))
 clear hB5
 have zs:(⟨#[UInt8.ofNat 1]⟩:ByteArray).size=1:=rfl
 go_wp2_with fail
 go_ret
 exact⟨by rw[←HB.out];rfl,H5.out⟩
theorem rbytes_text (x:Val)
  (ck cn:Int)(cs:ByteArray)(la:Option Addr)(ln lc:Nat)(F:Nat→Prop)(w:World)(C:CF F w ⟨ck,cn,cs,la,ln,lc⟩ x)(hw:x.wf)(hl:(bytesV x).length≤1099511627776)
  (k2:ck=2):
  Calls Tryz.prog 91 #[.agg #[.int .i64 ck,.int .i64 cn,.string cs,.slice la ln lc]] w fun e w'=>e= .returned (.string (bytesS x))∧Below w.heap.size w w'
  :=by
 have h1:ck=x.kind:=C.kind
 have h3:cs=x.txt:=C.s
 subst k2
 have hz:cs.size≤140737488355328:=by have:=((Val.wf_eq x).1 hw).2.2.1;rw[←h3]at this;exact this
 have hl2:(Go.Va.textB cs.data.toList).length≤1099511627776:=by
  rw[bytesV_eq,←h1,←h3]at hl
  simp only[List.length_cons]at hl
  have e:(bif (2:Int)==1 then numB (zigL x.num)else bif (2:Int)==2 then Go.Va.textB cs.data.toList else bif (2:Int)==3 then numB x.list.length++bytesV.bytesL x.list else[])=Go.Va.textB cs.data.toList:=rfl
  rw[e]at hl
  omega
 have hs:(textS cs).size≤1099511627776:=by unfold textS;show(Go.Va.textB cs.data.toList).toArray.size≤_;simpa using hl2
 have hcs:cs.size≤1099511627776:=by
  have:cs.data.toList.length=cs.size:=by simp
  unfold Go.Va.textB at hl2
  rw[List.length_append]at hl2
  omega
 have HB:Hid ((⟨#[UInt8.ofNat 2]⟩++textS cs:ByteArray)=bytesS x):=zhd (by
  apply ByteArray.ext
  unfold bytesS textS
  rw[bytesV_eq,←h1,←h3,ByteArray.data_append]
  simp)
 have IA:=zhd (fun W=>rtext_any cs hcs W)
 generalize textS cs=ns at*
 clear C hw hl h1 h3 hl2 hcs
 go_enter Tryz.func91,Tryz.ntmps91
 go_wp2_with fail
 refine(IA.out _).mono ?_
 rintro e w5 ⟨rfl,hB5⟩
 have H5:=zhd (((Below.refl w.heap.size w).alloc (Nat.le_refl _) (.cells #[.int .i64 2,.int .i64 cn,.string cs,.slice la ln lc] 39)).trans (((Below.refl _ _).alloc (Nat.le_refl _) (.cells #[.int .u8 2] 5)).trans (hB5.mono (by simp))|>.mono (by simp)))
 clear hB5
 have zs:(⟨#[UInt8.ofNat 2]⟩:ByteArray).size=1:=rfl
 go_wp2_with fail
 go_ret
 exact⟨by rw[←HB.out];rfl,H5.out⟩
theorem rbytes_list (n:Nat)(IH:BIH n)(x:Val)(hx:x.parts≤n+1)
  (ck cn:Int)(cs:ByteArray)(la:Option Addr)(ln lc:Nat)(F:Nat→Prop)(w:World)(C:CF F w ⟨ck,cn,cs,la,ln,lc⟩ x)(hw:x.wf)(hl:(bytesV x).length≤1099511627776)
  (k3:ck=3)(g off:Nat)(E:ELs F w la ln x.list g off):
  Calls Tryz.prog 91 #[.agg #[.int .i64 ck,.int .i64 cn,.string cs,.slice la ln lc]] w fun e w'=>e= .returned (.string (bytesS x))∧Below w.heap.size w w'
  :=by
 have h1:ck=x.kind:=C.kind
 subst k3
 have hlm:=E.max
 unfold maxLen at hlm
 have HE:=zhd E
 have HI:=zhd IH
 have HL:=zhd E.len
 have HW:=zhd (Val.wfL_iff.1 ((Val.wf_eq x).1 hw).2.2.2)
 have hbv:bytesV x=(3:UInt8)::(numB ln++bytesV.bytesL x.list):=by
  rw[bytesV_eq,←h1,E.len]
  rfl
 have HB:=zh2 hbv hl
 have NA:=zhd (fun W=>num_any2 ln (by omega) W)
 have hz:=numS_size ln
 have hns:(numS ln).data.toList=numB ln:=by unfold numS;simp
 have HN:=zhd hns
 have hcw:IntKind.u64.wrap (ln:Int)=ln:=by simp[IntKind.wrap,IntKind.bits,IntKind.signed];omega
 generalize numS ln=ns at*
 clear C E IH hw hl h1 hbv hns
 go_enter Tryz.func91,Tryz.ntmps91
 go_wp2_with fail
 obtain⟨w1,hw1⟩:∃w1,w1=(w.alloc (.cells #[.int .i64 3,.int .i64 cn,.string cs,.slice la ln lc] 39)).alloc (.cells #[.int .u8 3] 5):=⟨_,rfl⟩
 have p3:w1.heap[w.heap.size]? =some (.cells #[.int .i64 3,.int .i64 cn,.string cs,.slice la ln lc] 39 (0,0)):=by rw[hw1];exact heap_lt2
 have B1:Below w.heap.size w w1:=by rw[hw1];exact(zal).alloc (by simp) _
 rw[←hw1]
 clear hw1
 refine(NA.out _).mono ?_
 rintro e w2 ⟨rfl,hB2⟩
 have p3:=(hB2.block _ (zlt p3)).trans p3
 have q3:=zca p3 3 rfl
 have s0:=zlt p3
 have H1:=zh2 p3 (B1.trans (hB2.mono B1.size))
 clear B1 hB2 p3 NA
 have zs:(⟨#[UInt8.ofNat 3]⟩:ByteArray).size=1:=rfl
 go_wp2_with fail
 go_loopg [4,3] (x.list.length) (fun gk v4 v3 wr=>∃(i:Nat) (S:ByteArray),v4= .int .i64 i∧v3= .string S∧i≤x.list.length∧gk=x.list.length - i∧Hid (S.data.toList++bytesV.bytesL (x.list.drop i)=bytesV x∧Below w2.heap.size w2 wr))
 case atStart=>
  refine⟨0,_,rfl,rfl,Nat.zero_le _,rfl,zhd ⟨?_,Below.refl _ _⟩⟩
  rw[HB.out.1,ByteArray.data_append,Array.toList_append,HN.out]
  rfl
 case round=>
  obtain⟨i,S,rfl,rfl,hi,hgk,HX⟩:=hrel
  have BW:=H1.out.2.trans (HX.out.2.mono H1.out.2.size)
  have b3:=(HX.out.2.block _ (zlt H1.out.1)).trans H1.out.1
  have p3:=zca b3 3 rfl
  have s0:=zlt b3
  clear b3
  have hSz:S.data.toList.length+(bytesV.bytesL (x.list.drop i)).length≤1099511627776:=by
   have:=congrArg List.length HX.out.1
   rw[List.length_append]at this
   have:=HB.out.2
   omega
  have hSs:S.data.toList.length=S.size:=by simp
  by_cases hin:i<ln
  ·obtain⟨z,c',hz,hla,hdr,hgl,hC,q0,q1,q2,q3⟩:=HE.out.get BW hin
   have hin':(i:Int)<ln:=by omega
   have hbs:=HX.out.1
   rw[hdr,bytesL_cons]at hbs hSz
   rw[List.length_append]at hSz
   have CA:=zhd (HI.out z (by have:=Val.parts_lt (v:=x) (zmg hz);omega) c'.kind c'.n c'.s c'.la c'.ln c'.lc F wr hC (HW.out z (zmg hz)) (by omega))
   have hzs:(bytesS z).size≤1099511627776:=by rw[bytesS_size];omega
   have hze:(bytesS z).data.toList=bytesV z:=by unfold bytesS;simp
   have hSb:S.size≤1099511627776:=by omega
   have HH:=zh5 hbs BW hgk hze (zge hz).1
   generalize bytesS z=bz at*
   subst hla
   clear hz hC hdr hbs BW hgk hze hSz hSs
   go_wp2_with fail
   refine CA.out.mono ?_
   rintro e w5 ⟨rfl,hB5⟩
   have H5:=zhd hB5
   clear hB5
   go_wp2_with fail
   go_roundg (x.list.length - (i+1))
   case measure=>have:=HH.out.2.2.1;have:=HH.out.2.2.2.2;omega
   case rel=>
    refine⟨i+1,_,by simp,rfl,HH.out.2.2.2.2,rfl,zhd ⟨?_,HX.out.2.trans (H5.out.mono HX.out.2.size)⟩⟩
    rw[ByteArray.data_append,Array.toList_append,HH.out.2.2.2.1,List.append_assoc]
    exact HH.out.1
  ·obtain rfl:i=ln:=by have:=HL.out;omega
   have hbs:=HX.out.1
   rw[List.drop_eq_nil_of_le (by have:=HL.out;omega),bytesL_nil,List.append_nil]at hbs
   have HH:=zh2 hbs BW
   have e3:¬(i:Int)<i:=by omega
   clear hbs BW hgk hSz hSs
   go_wp2_with fail
   go_ret
   refine⟨?_,HH.out.2⟩
   rw[show S=bytesS x from ByteArray.ext (by unfold bytesS;rw[←HH.out.1])]
   rfl
theorem rbytes_any:∀n,BIH n
 |0=>fun x h=>by have:=x.parts_pos;omega
 |n+1=>fun x hx ck cn cs la ln lc F w C hw hl=>by
  obtain⟨g,off,E⟩:=C.l.els
  by_cases k1:ck=1
  ·exact rbytes_int x ck cn cs la ln lc F w C hw hl k1
  ·by_cases k2:ck=2
   ·exact rbytes_text x ck cn cs la ln lc F w C hw hl k2
   ·by_cases k3:ck=3
    ·exact rbytes_list n (rbytes_any n) x hx ck cn cs la ln lc F w C hw hl k3 g off E
    ·exact rbytes_other x ck cn cs la ln lc F w C hw hl (by simpa using k1) (by simpa using k2) (by simpa using k3)
def RCPost (w:World)(r:Int)(e:Ending)(w':World):Prop:=∃n:Int,e= .returned (.tuple #[.int .i64 r,.int .i64 n])∧Below w.heap.size w w'
theorem rcheck_any (x:Val)(ck cn:Int)(cs:ByteArray)(la:Option Addr)(ln lc:Nat)(F:Nat→Prop)(w:World)(C:CF F w ⟨ck,cn,cs,la,ln,lc⟩ x)(hw:x.wf):
  Calls Tryz.prog 44 #[.agg #[.int .i64 ck,.int .i64 cn,.string cs,.slice la ln lc],.int .i64 0,.int .i64 0] w (RCPost w (checkL x)):=by
 have KA:=zhd (fun W (hW:Below w.heap.size w W)=>rwalk_any _ x (Nat.le_refl _) 0 0 (by decide) (by decide) ck cn cs la ln lc F W (C.keep (S:=fun _=>False) (zkb hW) (fun _ _ f=>f)))
 have KB:=zhd (fun(h:(bytesV x).length≤1099511627776) W (hW:Below w.heap.size w W)=>rbytes_any _ x (Nat.le_refl _) ck cn cs la ln lc F W (C.keep (S:=fun _=>False) (zkb hW) (fun _ _ f=>f)) hw h)
 have HS:=zhd (fun(h:(walkV x 0 (0,0)).2=0)=>bytes_small h)
 have hck:checkL x=bif (walkV x 0 (0,0)).2 !=0 then(walkV x 0 (0,0)).2 else bif decide (512<(bytesV x).length)then 2 else 0:=rfl
 obtain⟨⟨np,er⟩,hv⟩:∃r,walkV x 0 (0,0)=r:=⟨_,rfl⟩
 rw[hv]at KA HS hck
 dsimp only at HS hck
 have HC:=zhd hck
 clear C hw hv hck
 go_enter Tryz.func44,Tryz.ntmps44
 go_wp2_with fail
 obtain⟨w1,hw1⟩:∃w1,w1=w.alloc (.cells #[.int .i64 ck,.int .i64 cn,.string cs,.slice la ln lc] 39):=⟨_,rfl⟩
 have B1:=zba hw1
 have p1:=zha hw1
 rw[←hw1]
 clear hw1
 refine(KA.out _ B1).mono ?_
 rintro e w2 ⟨rfl,hB2⟩
 have p2:=(hB2.block _ (zlt p1)).trans p1
 have c0:=zca p2 0 rfl
 have c1:=zca p2 1 rfl
 have c2:=zca p2 2 rfl
 have c3:=zca p2 3 rfl
 have lt2:=zlt p2
 have H2:=zhd (B1.trans (hB2.mono B1.size))
 clear B1 hB2 p1 p2 KA
 cases he:(er==0)with
 |false=>
  have hr:=HC.out
  rw[show(er !=0)=true by simpa using he]at hr
  have HR:=zhd hr
  clear hr
  go_wp2_with fail
  refine bodyPost_ret (v:=.tuple #[.int .i64 er,.int .i64 np]) (by simp only[results,Tryz.results44];go_simp) rfl ⟨_,by rw[HR.out];rfl,H2.out⟩
 |true=>
  obtain rfl:er=0:=by simpa using he
  have hb:=HS.out rfl
  have CB:=zhd (KB.out (by omega) w2 H2.out)
  have hz:=bytesS_size x
  clear he KB
  cases hc:decide (512<(bytesV x).length)with
  |true=>
   have hr:=HC.out
   rw[hc]at hr
   have HR:=zhd hr
   have h5:(512:Int)<(bytesS x).size:=by have:=of_decide_eq_true hc;omega
   clear hr hc hz hb HC
   generalize bytesS x=bs at*
   go_wp2_with fail
   refine CB.out.mono ?_
   rintro e w5 ⟨rfl,hB5⟩
   have H5:=zhd (H2.out.trans (hB5.mono H2.out.size))
   clear hB5
   go_wp2_with fail
   refine bodyPost_ret (v:=.tuple #[.int .i64 2,.int .i64 np]) (by simp only[results,Tryz.results44];go_simp) rfl ⟨_,by rw[HR.out];rfl,H5.out⟩
  |false=>
   have hr:=HC.out
   rw[hc]at hr
   have HR:=zhd hr
   have h5:¬(512:Int)<(bytesS x).size:=by have:=of_decide_eq_false hc;omega
   clear hr hc hz hb HC
   generalize bytesS x=bs at*
   go_wp2_with fail
   refine CB.out.mono ?_
   rintro e w5 ⟨rfl,hB5⟩
   have H5:=zhd (H2.out.trans (hB5.mono H2.out.size))
   clear hB5
   go_wp2_with fail
   refine bodyPost_ret (v:=.tuple #[.int .i64 0,.int .i64 np]) (by simp only[results,Tryz.results44];go_simp) rfl ⟨_,by rw[HR.out];rfl,H5.out⟩
theorem open_bools {H:Type}{tok:TypeId×Value→H}{w:World}{base:Nat}{spare:Nat→Bool}{held:Bool}{a:Option Addr}{len cap:Nat}{d:DataW H}{p:List MemPlace}(h:DataW.Trod tok Tryz.prog w base spare held 74 (.slice a len cap) d p):∃bs:List Bool,RdF (fun j=>j<w.heap.size) w (.slice a len cap) bs:=by
 obtain⟨fuel,hf⟩:=h
 obtain⟨a',len',cap',e,ys,hr,_⟩:=open_rd (α:=Bool) (Q:=fun _=>True) Tryz.underlying74 (show Tryz.prog.cellsOf 4=1 by kernel_rfl) (by decide) false (fun m _ cs x hcl ht=>by
  obtain⟨b,e,_⟩:=DataW.trod_bool Tryz.underlying4 ht
  exact⟨b,e,trivial⟩) hf
 simp[Value.cells]at e
 obtain⟨rfl,rfl,rfl⟩:=e
 exact⟨ys,hr⟩
end Go.Proofs.YtakljipkaoahnaaGreatDoor
namespace Go.Va
open Go.Own Go.RowKit Go.Own.MapTy
theorem compareBytes_zero:∀(a b:List UInt8),Lib.compareBytes a b=0↔a=b
 |[],[]=>by simp[Lib.compareBytes]
 |[],_::_=>by simp[Lib.compareBytes]
 |_::_,[]=>by simp[Lib.compareBytes]
 |a::xs,b::ys=>by
  rw[Lib.compareBytes]
  by_cases h1:a<b
  ·rw[if_pos h1]
   refine⟨fun h=>by simp at h,fun h=> ?_⟩
   obtain⟨rfl,_⟩:=List.cons.inj h
   exact absurd h1 (UInt8.lt_irrefl _)
  ·rw[if_neg h1]
   by_cases h2:b<a
   ·rw[if_pos h2]
    refine⟨fun h=>by simp at h,fun h=> ?_⟩
    obtain⟨rfl,_⟩:=List.cons.inj h
    exact absurd h2 (UInt8.lt_irrefl _)
   ·rw[if_neg h2,compareBytes_zero xs ys]
    have e:a=b:=UInt8.le_antisymm (UInt8.not_lt.1 h2) (UInt8.not_lt.1 h1)
    rw[e]
    simp
theorem cond_ne (b:Bool):¬(bif b then(-1:Int)else 1)=0:=by cases b<;>decide
theorem bytes_inj {a b:ByteArray}:a.data.toList=b.data.toList↔a=b:=⟨fun h=>ByteArray.ext (Array.toList_inj.1 h),fun h=>by rw[h]⟩
theorem Val.ext4 {x y:Val}:x=y↔x.kind=y.kind∧x.num=y.num∧x.txt=y.txt∧x.list=y.list:=by
 cases x;cases y
 simp[Val.kind,Val.num,Val.txt,Val.list]
mutual
theorem cmp_zero:∀x y:Val,cmpV x y=0↔cloneV x=cloneV y
 | .mk k n s l,y=>by
   rw[cmpV_eq,Val.ext4,clone_kind,clone_kind,clone_num,clone_num,clone_txt,clone_txt,clone_list,clone_list]
   show(bif k !=y.kind then _ else bif k==1 then(bif n !=y.num then _ else _)else bif k==2 then Lib.compareBytes s.data.toList _ else bif k==3 then cmpV.cmpLs l y.list else 0)=0↔k=y.kind∧(bif k==1 then n else 0)=_∧(bif k==2 then s else _)=_∧(bif k==3 then l.map cloneV else _)=_
   by_cases hk:k=y.kind
   ·rw[←hk]
    have e0:(k !=k)=false:=by simp
    rw[e0]
    by_cases h1:k=1
    ·subst h1
     simp only[beq_self_eq_true,cond_true,cond_false,true_and,show((1:Int)==2)=false from rfl,show((1:Int)==3)=false from rfl,and_true]
     by_cases hn:n=y.num
     ·rw[hn];simp
     ·have:(n !=y.num)=true:=by simpa using hn
      rw[this]
      simp only[cond_true,hn,iff_false]
      exact cond_ne _
    ·have e1:(k==1)=false:=by simpa using h1
     by_cases h2:k=2
     ·subst h2
      simp only[beq_self_eq_true,cond_true,cond_false,true_and,show((2:Int)==1)=false from rfl,show((2:Int)==3)=false from rfl,and_true]
      rw[compareBytes_zero,bytes_inj]
     ·have e2:(k==2)=false:=by simpa using h2
      by_cases h3:k=3
      ·subst h3
       simp only[beq_self_eq_true,cond_true,cond_false,true_and,show((3:Int)==1)=false from rfl,show((3:Int)==2)=false from rfl]
       exact cmpL_zero l y.list
      ·have e3:(k==3)=false:=by simpa using h3
       simp[e1,e2,e3]
   ·have e0:(k !=y.kind)=true:=by simpa using hk
    rw[e0]
    simp only[cond_true,hk,false_and,iff_false]
    exact cond_ne _
theorem cmpL_zero:∀xs ys:List Val,cmpV.cmpLs xs ys=0↔xs.map cloneV=ys.map cloneV
 |[],[]=>by rw[cmpL_nil];simp
 |[],y::s=>by rw[cmpL_nil];simp
 |x::r,[]=>by rw[cmpL_one];simp
 |x::r,y::s=>by
  have h1:=cmp_zero x y
  have h2:=cmpL_zero r s
  rw[cmpL_cons,List.map_cons,List.map_cons]
  by_cases h:cmpV x y=0
  ·have e:(cmpV x y !=0)=false:=by simpa using h
   rw[e,cond_false,h2,h1.1 h]
   simp
  ·have e:(cmpV x y !=0)=true:=by simpa using h
   rw[e,cond_true]
   refine⟨fun hh=>absurd hh h,fun hh=>absurd (h1.2 ?_) h⟩
   exact(List.cons.inj hh).1
end
end Go.Va
namespace Go.Proofs.YtakljipkaoahnaaGreatDoor
open Go.RowKit Go.Own Go.Own.MapTy Go.Va Go.Sort
open Go.Own.Cells (sz enc)
theorem fields2_any (W:World):Calls Tryz.prog 69 #[.int .i64 2] W (fun e w'=>e= .returned (.tuple #[.agg #[.bool true,.bool false,.bool false,.bool false],.bool true])∧Below W.heap.size W w'):=by
 go_enter Tryz.func69,Tryz.ntmps69
 go_wp2_with fail
 exact bodyPost_ret (v:=.tuple #[.agg #[.bool true,.bool false,.bool false,.bool false],.bool true]) (by simp only[results,Tryz.results69];go_simp) rfl ⟨rfl,by repeat(first|exact Below.refl _ _|refine Below.setCell ?_ (by first|(simp;done)|(simp;omega)) _|refine Below.alloc ?_ (by first|(simp;done)|(simp;omega)) _)⟩
theorem fields3_any (W:World):Calls Tryz.prog 69 #[.int .i64 3] W (fun e w'=>e= .returned (.tuple #[.agg #[.bool true,.bool true,.bool true,.bool true],.bool true])∧Below W.heap.size W w'):=by
 go_enter Tryz.func69,Tryz.ntmps69
 go_wp2_with fail
 exact bodyPost_ret (v:=.tuple #[.agg #[.bool true,.bool true,.bool true,.bool true],.bool true]) (by simp only[results,Tryz.results69];go_simp) rfl ⟨rfl,by repeat(first|exact Below.refl _ _|refine Below.setCell ?_ (by first|(simp;done)|(simp;omega)) _|refine Below.alloc ?_ (by first|(simp;done)|(simp;omega)) _)⟩
theorem fields5_any (W:World):Calls Tryz.prog 69 #[.int .i64 5] W (fun e w'=>e= .returned (.tuple #[.agg #[.bool false,.bool false,.bool true,.bool false],.bool true])∧Below W.heap.size W w'):=by
 go_enter Tryz.func69,Tryz.ntmps69
 go_wp2_with fail
 exact bodyPost_ret (v:=.tuple #[.agg #[.bool false,.bool false,.bool true,.bool false],.bool true]) (by simp only[results,Tryz.results69];go_simp) rfl ⟨rfl,by repeat(first|exact Below.refl _ _|refine Below.setCell ?_ (by first|(simp;done)|(simp;omega)) _|refine Below.alloc ?_ (by first|(simp;done)|(simp;omega)) _)⟩
theorem fields6_any (W:World):Calls Tryz.prog 69 #[.int .i64 6] W (fun e w'=>e= .returned (.tuple #[.agg #[.bool false,.bool false,.bool false,.bool true],.bool true])∧Below W.heap.size W w'):=by
 go_enter Tryz.func69,Tryz.ntmps69
 go_wp2_with fail
 exact bodyPost_ret (v:=.tuple #[.agg #[.bool false,.bool false,.bool false,.bool true],.bool true]) (by simp only[results,Tryz.results69];go_simp) rfl ⟨rfl,by repeat(first|exact Below.refl _ _|refine Below.setCell ?_ (by first|(simp;done)|(simp;omega)) _|refine Below.alloc ?_ (by first|(simp;done)|(simp;omega)) _)⟩
theorem ends_any (k t a c:Int)(nm:ByteArray)(vk vn:Int)(vs:ByteArray)(la:Option Addr)(ln lc:Nat)(W:World)(r:Bool)(hr:((k==4)||((k==5)||(k==6)))=r):
  Calls Tryz.prog 30 #[.agg #[.int .i64 k,.int .i64 t,.int .i64 a,.int .i64 c,.string nm,.int .i64 vk,.int .i64 vn,.string vs,.slice la ln lc]] W (fun e w'=>e= .returned (.bool r)∧Below W.heap.size W w'):=by
 have HR:=zhd hr
 clear hr
 cases h4:(k==4)with
 |true=>
  have h:=HR.out
  rw[h4,Bool.true_or]at h
  subst h
  obtain rfl:k=4:=by simpa using h4
  clear h4 HR
  go_enter Tryz.func30,Tryz.ntmps30
  go_wp2_with fail
  go_ret
  exact⟨by first|rfl|simp|(go_simp;done),zal⟩
 |false=>
  cases h5:(k==5)with
  |true=>
   have h:=HR.out
   rw[h4,h5]at h
   have h:true=r:=h
   subst h
   obtain rfl:k=5:=by simpa using h5
   clear h4 h5 HR
   go_enter Tryz.func30,Tryz.ntmps30
   go_wp2_with fail
   go_ret
   exact⟨by first|rfl|simp|(go_simp;done),zal⟩
  |false=>
   have h:=HR.out
   rw[h4,h5]at h
   have h:(k==6)=r:=h
   have HR:=zhd h
   clear h
   go_enter Tryz.func30,Tryz.ntmps30
   go_wp2_with fail
   go_ret
   exact⟨by rw[HR.out];rfl,zal⟩
end Go.Proofs.YtakljipkaoahnaaGreatDoor
namespace Go.Va
open Go.Own Go.RowKit
open Go.Proofs.YtakljipkaoahnaaGreatDoor
def MS.cnt (s:MS)(i j:Nat):MS:={s with events:=i,steps:=j}
theorem c_ite {a b a' b':MS}{c:Prop}[Decidable c]{i j:Nat}(ha:a'=a.cnt i j)(hb:b'=b.cnt i j):(if c then a' else b')=(if c then a else b).cnt i j:=by
 split
 ·exact ha
 ·exact hb
theorem c_put (s:MS)(v:Val)(i j:Nat):(s.cnt i j).put v=(s.put v).cnt i j:=by
 unfold MS.put
 exact c_ite rfl rfl
theorem c_arith (s:MS)(op:Int)(a b:Val)(i j:Nat):(s.cnt i j).arith op a b=(s.arith op a b).cnt i j:=by
 unfold MS.arith
 exact c_ite rfl rfl
theorem c_two (s:MS)(op:Int)(a b:Val)(i j:Nat):(s.cnt i j).two op a b=(s.two op a b).cnt i j:=by
 unfold MS.two
 exact c_ite rfl (c_ite rfl (c_ite (c_ite rfl rfl) (c_ite (c_ite (c_put _ _ _ _) (c_ite (c_put _ _ _ _) rfl)) (c_arith _ _ _ _ _ _))))
theorem c_reckon (s:MS)(op:Int)(k i j:Nat):(s.cnt i j).reckon op k=(s.reckon op k).cnt i j:=by
 unfold MS.reckon
 exact c_ite (c_put {s with stk:=s.stk.take (s.stk.length - k)} _ _ _) (c_ite rfl (c_ite (c_ite rfl (c_ite rfl rfl)) (c_two s.pop.pop _ _ _ _ _)))
theorem c_begin (s:MS)(op:Int)(name:ByteArray)(i j:Nat):(s.cnt i j).begin_ op name=(s.begin_ op name).cnt i j:=by
 unfold MS.begin_
 dsimp only
 refine c_ite ?_ (c_ite rfl (c_ite rfl (c_ite rfl rfl)))
 show(match(if s.top.kind=1 then findT s.top.num s.timers.list else none)with
  |none=>(s.cnt i j).pop.tGone
  |some k=>_)=_
 cases(if s.top.kind=1 then findT s.top.num s.timers.list else none)with
 |none=>rfl
 |some k=>
  show(bif (s.timers.list[k]?.getD ⟨0,false,vNil0,0⟩).over then({(s.cnt i j).pop with timers:=⟨s.timers.list.eraseIdx k,s.timers.next⟩}:MS)else({(s.cnt i j).pop with timers:=⟨s.timers.list.eraseIdx k,s.timers.next⟩}:MS).want ⟨2,0,s.top.num,0,⟨#[]⟩,vNil0⟩).push (vBool (!(s.timers.list[k]?.getD ⟨0,false,vNil0,0⟩).over))=((bif (s.timers.list[k]?.getD ⟨0,false,vNil0,0⟩).over then({s.pop with timers:=⟨s.timers.list.eraseIdx k,s.timers.next⟩}:MS)else({s.pop with timers:=⟨s.timers.list.eraseIdx k,s.timers.next⟩}:MS).want ⟨2,0,s.top.num,0,⟨#[]⟩,vNil0⟩).push (vBool (!(s.timers.list[k]?.getD ⟨0,false,vNil0,0⟩).over))).cnt i j
  cases(s.timers.list[k]?.getD ⟨0,false,vNil0,0⟩).over<;>rfl
theorem c_wait (s:MS)(op:Int)(name:ByteArray)(i j:Nat):(s.cnt i j).wait op name=(s.wait op name).map (·.cnt i j):=by
 unfold MS.wait
 by_cases h22:op=22
 ·rw[if_pos h22,if_pos h22]
  show(findLt name s.letters).map _=_
  cases findLt name s.letters<;>rfl
 ·rw[if_neg h22,if_neg h22]
  dsimp only
  show(match(if s.top.kind=1 then findT s.top.num (if op=21 then s.acts.list else s.timers.list)else none)with
   |none=>some (s.cnt i j).tGone
   |some k=>_)=_
  cases(if s.top.kind=1 then findT s.top.num (if op=21 then s.acts.list else s.timers.list)else none)with
  |none=>rfl
  |some k=>
   dsimp only
   show(match(if op=28 then findLt name s.letters else none)with
    |some m=>_
    |none=>_)=_
   cases(if op=28 then findLt name s.letters else none)with
   |some m=>rfl
   |none=>
    dsimp only
    show(bif !((if op=21 then s.acts.list else s.timers.list)[k]?.getD ⟨0,false,vNil0,0⟩).over then none else _)=_
    cases((if op=21 then s.acts.list else s.timers.list)[k]?.getD ⟨0,false,vNil0,0⟩).over with
    |false=>rfl
    |true=>
     simp only[Bool.not_true,cond_false,Option.map_some]
     by_cases h21:op=21
     ·subst h21;rfl
     ·by_cases h18:op=18
      ·subst h18;rfl
      ·simp only[if_neg h21,if_neg h18];rfl
theorem c_end (s:MS)(op:Int)(name:ByteArray)(i j:Nat):(s.cnt i j).end_ op name=(s.end_ op name).cnt i j:=by
 unfold MS.end_
 exact c_ite rfl (c_ite rfl rfl)
theorem c_go (s:MS)(p:Img)(op:Int)(k i j:Nat):(s.cnt i j).go p op k=(s.go p op k).cnt i j:=by
 unfold MS.go
 dsimp only
 refine c_ite rfl (c_ite rfl (c_ite rfl (c_ite rfl (c_ite rfl (c_ite rfl (c_ite rfl (c_ite rfl (c_ite rfl (c_ite ?_ (c_ite (c_begin _ _ _ _ _) (c_ite rfl (c_reckon _ _ _ _ _))))))))))))
 show(match findLt (p.names[k]?.getD ⟨#[]⟩) s.letters with
  |some m=>_
  |none=>_)=_
 cases findLt (p.names[k]?.getD ⟨#[]⟩) s.letters<;>rfl
theorem c_step (p:Img)(s:MS)(i j:Nat):stepM p (s.cnt i j)=(stepM p s).map (·.cnt i j):=by
 unfold stepM
 have hat:(s.cnt i j).at_=s.at_:=rfl
 rw[hat]
 dsimp only
 cases hb:(ofL (p.code[s.at_]?.getD ⟨0,0⟩).op).1.blocks with
 |true=>exact c_wait _ _ _ _ _
 |false=>
  simp only[cond_false]
  cases he:(ofL (p.code[s.at_]?.getD ⟨0,0⟩).op).1.ends with
  |true=>simp only[cond_true,Option.map_some];rw[←c_end]
  |false=>
   simp only[cond_false]
   cases hf:(ofL (p.code[s.at_]?.getD ⟨0,0⟩).op).1.flow with
   |true=>
    simp only[cond_true,Option.map_some]
    congr 1
    show(bif (p.code[s.at_]?.getD ⟨0,0⟩).op==11 then _ else bif trueV s.top then _ else _)=_
    cases((p.code[s.at_]?.getD ⟨0,0⟩).op==11)
    ·cases trueV s.top<;>rfl
    ·rfl
   |false=>
    simp only[cond_false,Option.map_some]
    congr 1
    exact c_go s.nxt p _ _ i j
def MS.core (s:MS):MS:={s with events:=0,steps:=0}
theorem cnt_core (s:MS):s=s.core.cnt s.events s.steps:=rfl
theorem core_step {p:Img}{a b:MS}(h:a.core=b.core):(stepM p a).map MS.core=(stepM p b).map MS.core:=by
 have h1:=c_step p a.core a.events a.steps
 have h2:=c_step p b.core b.events b.steps
 rw[←cnt_core]at h1 h2
 rw[h1,h2,h,Option.map_map,Option.map_map]
 rfl
theorem core_over {a b:MS}(h:a.core=b.core):a.over=b.over∧a.begun=b.begun∧a.made=b.made∧a.trap=b.trap∧a.letters=b.letters∧a.timers=b.timers∧a.acts=b.acts:=
 ⟨(congrArg MS.over h:a.core.over=b.core.over),(congrArg MS.begun h:a.core.begun=b.core.begun),(congrArg MS.made h:a.core.made=b.core.made),(congrArg MS.trap h:a.core.trap=b.core.trap),(congrArg MS.letters h:a.core.letters=b.core.letters),(congrArg MS.timers h:a.core.timers=b.core.timers),(congrArg MS.acts h:a.core.acts=b.core.acts)⟩
theorem core_run {p:Img}:∀(f:Nat) {a b:MS},a.core=b.core→(runM p f a).core=(runM p f b).core
 |0,_,_,h=>h
 |f+1,a,b,h=>by
  have ho:=(core_over h).1
  have hs:=core_step (p:=p) h
  rw[runM,runM,←ho]
  cases a.over with
  |true=>exact h
  |false=>
   simp only[cond_false]
   cases ha:stepM p a with
   |none=>
    rw[ha]at hs
    cases hb:stepM p b with
    |none=>exact h
    |some b'=>rw[hb]at hs;cases hs
   |some a'=>
    rw[ha]at hs
    cases hb:stepM p b with
    |none=>rw[hb]at hs;cases hs
    |some b'=>
     rw[hb]at hs
     dsimp only
     exact core_run f (a:={a' with steps:=a'.steps+1}) (b:={b' with steps:=b'.steps+1}) (Option.some.inj hs)
def Like (a b:MS):Prop:=a.hull=b.hull
theorem Like.of {a b:MS}(h:Like a b):a.over=b.over∧a.begun=b.begun∧a.made=b.made∧a.trap=b.trap:=
 ⟨(congrArg MS.over h:a.hull.over=b.hull.over),(congrArg MS.begun h:a.hull.begun=b.hull.begun),(congrArg MS.made h:a.hull.made=b.hull.made),(congrArg MS.trap h:a.hull.trap=b.hull.trap)⟩
theorem like_tick {a b:MS}(h:Like a b)(t:Int)(i j k l:Nat):({a with now:=t,steps:=i,events:=j}:MS).core=({b with now:=t,steps:=k,events:=l}:MS).core:=
 (congrArg (fun s:MS=>({s with now:=t}:MS)) h:({a.hull with now:=t}:MS)={b.hull with now:=t})
theorem core_hear {a b:MS}(h:a.core=b.core)(e:Ev):(hear a e).core=(hear b e).core:=by
 have hx:∀s:MS,(hear s e).core=(hear s.core e).core:=fun s=>by
  unfold hear
  repeat' split
  all_goals rfl
 rw[hx a,hx b,h]
theorem Like.apply {p:Img}{a b:MS}(h:Like a b)(e:Ev):Like (applyM p a e).2 (applyM p b e).2:=by
 obtain⟨h1,h2,_,_⟩:=h.of
 unfold applyM
 by_cases c1:evCheck e≠0∨evOut e.kind=false
 ·rw[if_pos c1,if_pos c1];exact h
 ·rw[if_neg c1,if_neg c1]
  by_cases c2:a.over=true
  ·have c2':b.over=true:=by rw[←h1];exact c2
   rw[if_pos c2,if_pos c2'];exact h
  ·have c2':¬b.over=true:=by rw[←h1];exact c2
   rw[if_neg c2,if_neg c2']
   by_cases c3:a.begun=(e.kind==1)
   ·have c3':b.begun=(e.kind==1):=by rw[←h2];exact c3
    rw[if_pos c3,if_pos c3'];exact h
   ·have c3':¬b.begun=(e.kind==1):=by rw[←h2];exact c3
    rw[if_neg c3,if_neg c3']
    have hc:=core_hear (like_tick h e.time 0 (a.events+1) 0 (b.events+1)) e
    have hf:fuel p (hear {a with now:=e.time,steps:=0,events:=a.events+1} e)=fuel p (hear {b with now:=e.time,steps:=0,events:=b.events+1} e):=by
     obtain⟨_,_,_,_,g1,g2,g3⟩:=core_over hc
     unfold fuel pot
     rw[g1,g2,g3]
    have hr:=core_run (p:=p) (fuel p (hear {a with now:=e.time,steps:=0,events:=a.events+1} e)) hc
    show Like (runM p _ _) (runM p _ _)
    rw[←hf]
    exact(congrArg (fun s:MS=>({s with now:=0}:MS)) hr:)
theorem wait_none {s:MS}{op:Int}{name:ByteArray}(h:s.wait op name=none)(t:Int)(i j:Nat):({s with now:=t,steps:=i,events:=j}:MS).wait op name=none:=by
 unfold MS.wait at h⊢
 by_cases h22:op=22
 ·rw[if_pos h22]at h⊢
  show(findLt name s.letters).map _=none
  cases hf:findLt name s.letters with
  |none=>rfl
  |some k=>rw[hf]at h;cases h
 ·rw[if_neg h22]at h⊢
  dsimp only at h⊢
  show(match(if s.top.kind=1 then findT s.top.num (if op=21 then s.acts.list else s.timers.list)else none)with
   |none=>_
   |some k=>_)=none
  cases hf:(if s.top.kind=1 then findT s.top.num (if op=21 then s.acts.list else s.timers.list)else none)with
  |none=>rw[hf]at h;cases h
  |some k=>
   rw[hf]at h
   dsimp only at h⊢
   cases hk:(if op=28 then findLt name s.letters else none)with
   |some m=>rw[hk]at h;cases h
   |none=>
    rw[hk]at h
    dsimp only at h⊢
    cases ho:((if op=21 then s.acts.list else s.timers.list)[k]?.getD ⟨0,false,vNil0,0⟩).over with
    |false=>rfl
    |true=>rw[ho]at h;cases h
theorem wait_tick {p:Img}{s:MS}(h:stepM p s=none)(t:Int)(i j:Nat):stepM p {s with now:=t,steps:=i,events:=j}=none:=by
 unfold stepM at h⊢
 dsimp only at h⊢
 cases hb:(ofL (p.code[s.at_]?.getD ⟨0,0⟩).op).1.blocks with
 |true=>rw[hb]at h;exact wait_none h t i j
 |false=>
  rw[hb]at h
  simp only[cond_false]at h
  cases he:(ofL (p.code[s.at_]?.getD ⟨0,0⟩).op).1.ends with
  |true=>rw[he]at h;cases h
  |false=>
   rw[he]at h
   simp only[cond_false]at h
   cases hf:(ofL (p.code[s.at_]?.getD ⟨0,0⟩).op).1.flow with
   |true=>rw[hf]at h;cases h
   |false=>rw[hf]at h;cases h
theorem end_none {id how:Int}{v:Val}:∀{l:List Th},(∀x∈l,x.id≠id)→endT id how v l=l
 |[],_=>rfl
 |x::r,h=>by
  rw[endT,if_neg (h x List.mem_cons_self),end_none (fun y hy=>h y (List.mem_cons_of_mem _ hy))]
theorem extra_like {p:Img}{fa:Fa}{s:MS}(G:Good p fa s)(V:Vs s)(hm:s.made.length<1099511627776){e:Ev}(hk:e.kind=12∨e.kind=9)(ha:e.a=1099511627776):Like (applyM p s e).2 s:=by
 unfold applyM
 split
 ·rfl
 ·split
  ·rfl
  ·rename_i ho
   have ho:s.over=false:=by simpa using ho
   split
   ·rfl
   ·rename_i hb
    have hb:s.begun=true:=by
     have:(e.kind==1)=false:=by rw[beq_eq_false_iff_ne];omega
     rw[this]at hb
     simpa using hb
    have hw:=wait_tick (G.wait ho hb) e.time 0 (s.events+1)
    have h1:∀v how,endT e.a how v s.timers.list=s.timers.list:=fun v how=>end_none (fun x hx=>by have:=V.tms x hx;have:=V.nt;omega)
    have h2:∀v how,endT e.a how v s.acts.list=s.acts.list:=fun v how=>end_none (fun x hx=>by have:=V.acs x hx;have:=V.na;omega)
    have hh:hear {s with now:=e.time,steps:=0,events:=s.events+1} e={s with now:=e.time,steps:=0,events:=s.events+1}:=by
     unfold hear
     rcases hk with hk|hk
     ·rw[if_neg (by omega),if_pos hk]
      show({s with now:=e.time,steps:=0,events:=s.events+1,timers:=⟨endT e.a 1 vNil0 s.timers.list,s.timers.next⟩}:MS)=_
      rw[h1]
     ·rw[if_neg (by omega),if_neg (by omega),if_neg (by omega),if_pos hk]
      show({s with now:=e.time,steps:=0,events:=s.events+1,acts:=⟨endT e.a 0 (vText e.name) s.acts.list,s.acts.next⟩}:MS)=_
      rw[h2]
    rw[hh]
    have hf:∃f,fuel p {s with now:=e.time,steps:=0,events:=s.events+1}=f+1:=⟨(p.code.length+1)*(pot {s with now:=e.time,steps:=0,events:=s.events+1}+1) - 1,by
     unfold fuel
     have:0<(p.code.length+1)*(pot {s with now:=e.time,steps:=0,events:=s.events+1}+1):=Nat.mul_pos (by omega) (by omega)
     omega⟩
    obtain⟨f,hf⟩:=hf
    show Like (runM p (fuel p _) _) s
    have e2:∀X:MS,stepM p X=none→runM p (f+1) X=X:=fun X hX=>by
     rw[runM,hX]
     cases X.over<;>rfl
    rw[hf,e2 _ hw]
    rfl
end Go.Va
