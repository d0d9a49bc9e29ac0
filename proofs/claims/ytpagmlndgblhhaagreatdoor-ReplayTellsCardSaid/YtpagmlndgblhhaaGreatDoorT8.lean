/- Parts of the proof: what the functions and the plain laws give that later parts lean on. Conditions: none beyond those that each theorem names. -/
import Derived.Test.YtpagmlndgblhhaaGreatDoorT7
set_option maxRecDepth 100000
set_option maxHeartbeats 8000000
namespace Go.Own
open Go.RowKit
theorem yfn {P:Program}{t e:TypeId}{i:TypeInfo}(ht:P.underlying t=some (.slice e))(hi:P.info? e=some i)(hz:i.zero=some (.int .i64 0))(hs:i.size=1)(hb:i.bytes=8)(n:Nat)(hn:n<=17592186044416):
  ∃cs:Array Value,(∀W:World,(Instr.makeSlice t (.int .i64 n) (.int .i64 n)).run P W= .ok (.slice (some ⟨W,0,none⟩) n n) (W.alloc (.cells cs e)))/\cs.toList=(List.replicate n (0:Int)).flatMap Cells.enc:=by
 refine⟨madeCells (Value.int .i64 0).cells (n*i.size),fun W=> ?_,?_⟩
 .have:=run_make (P:=P) W t e i (.int .i64 0) ht hi hz .i64 .i64 n n (by omega) (by omega) (by rw[hb];omega) (by omega)
  simpa using this
 .rw[yin,hs]
  simp only[Nat.mul_one,Value.cells,List.map_replicate];exact toList_madeCells_one _ _
end Go.Own
namespace Go.Proofs.YtpagmlndgblhhaaGreatDoor
open Go.RowKit Go.Own Go.Own.MapTy Go.Va Go.Sort
open Go.Own.Cells (sz enc)
theorem ynj:(Tryz.prog.info? 3).map (fun i=>(i.zero,i.size,i.bytes))=some (some (.int .i64 0),1,8):=by kernel_rfl
def yoT (W:World)(r:Fa×Int×Int)(e:Ending)(w':World):Prop:=
 ∃v:Value,e= .returned (.tuple #[.agg #[v,.int .i64 r.1.most,.int .i64 r.1.span],.agg #[.int .i64 r.2.1,.int .i64 r.2.2]])/\Hid (RowAt w' 3 v r.1.heights/\(∀g,v.ownBlock=some g->W.heap.size<=g)/\Below W W w')
theorem ycz (w':World)(b1 b2 o1 o2 o3 o5 o6:Nat)(v1 v2 v3 v5 v6:Value):
  Keeps (fun j=>j=b1\/j=b2) w' (((((w'.setCell ⟨b1,o1,none⟩ v1).setCell ⟨b1,o2,none⟩ v2).setCell ⟨b1,o3,none⟩ v3).setCell ⟨b2,o5,none⟩ v5).setCell ⟨b2,o6,none⟩ v6):=by
 have E:Keeps (fun j=>j=b1\/j=b2) w' w':=Keeps.refl _ _;have D:=Keeps.setCell (p:=⟨b1,o1,none⟩) E (.inl (.inl rfl)) v1;have C:=Keeps.setCell (p:=⟨b1,o2,none⟩) D (.inl (.inl rfl)) v2;have B:=Keeps.setCell (p:=⟨b1,o3,none⟩) C (.inl (.inl rfl)) v3;have A:=Keeps.setCell (p:=⟨b2,o5,none⟩) B (.inl (.inr rfl)) v5;exact Keeps.setCell (p:=⟨b2,o6,none⟩) A (.inl (.inr rfl)) v6
structure Res (W w1:World):Prop where
 c0:w1.cell? ⟨W.heap.size+1,0,none⟩=some (.slice none 0 0)
 c1:w1.cell? ⟨W.heap.size+1,1,none⟩=some (.int .i64 0)
 c2:w1.cell? ⟨W.heap.size+1,2,none⟩=some (.int .i64 0)
 c3:w1.cell? ⟨W.heap.size+1+1,0,none⟩=some (.int .i64 0)
 c4:w1.cell? ⟨W.heap.size+1+1,1,none⟩=some (.int .i64 0)
 f0:∀o,w1.frozen? ⟨W.heap.size+1,o,none⟩=false
 f1:∀o,w1.frozen? ⟨W.heap.size+1+1,o,none⟩=false
 l:W.heap.size+1+1<w1.heap.size
theorem Res.keep {S:Nat->Prop}{W w1 w2:World}(R:Res W w1)(K:Keeps S w1 w2)(h1:¬S (W.heap.size+1))(h2:¬S (W.heap.size+1+1)):Res W w2:=by
 have l:=R.l;have A:W.heap.size+1<w1.heap.size:=by omega
 exact⟨(K.cell (p:=⟨W.heap.size+1,0,none⟩) A h1).trans R.c0,(K.cell (p:=⟨W.heap.size+1,1,none⟩) A h1).trans R.c1,(K.cell (p:=⟨W.heap.size+1,2,none⟩) A h1).trans R.c2,(K.cell (p:=⟨W.heap.size+1+1,0,none⟩) l h2).trans R.c3,(K.cell (p:=⟨W.heap.size+1+1,1,none⟩) l h2).trans R.c4,fun o=>(K.frozen (p:=⟨W.heap.size+1,o,none⟩) A h1).trans (R.f0 o),fun o=>(K.frozen (p:=⟨W.heap.size+1+1,o,none⟩) l h2).trans (R.f1 o),znj l K.size⟩
def ypB (W9:World)(fb kb2 n:Nat)(code:List In)(hv:Value)(mo:Int)(hs:List Int)(gk:Nat)(v72:Value)(wz:World):Prop:=
 ∃(i m:Nat) (known:List Int),v72= .int .i64 i/\i<=hs.length/\gk=hs.length - i/\m<=600/\ycK code i (hs.drop i) m=ycK code 0 hs 0/\wz.heap[fb]? =some (.cells #[hv,mo,m] 110 (0,0))/\RowAt wz 3 (.slice (some ⟨kb2,0,none⟩) n n) known/\known.length=n/\KN code known/\Keeps (fun j=>j=fb\/j=kb2) W9 wz
theorem KN.zero (code:List In)(n:Nat):KN code (List.replicate n 0):=fun i v h=>by
 rw[List.getElem?_replicate]at h;split at h
 .cases h
  exact⟨Int.le_refl _,fun h=>absurd h (by decide)⟩
 .cases h
theorem ylw {w:World}{fb:Nat}{hv:Value}{mo m:Int}{T:TypeId}(h:w.heap[fb]? =some (.cells #[hv,mo,m] T (0,0)))(k:Int):(w.setCell ⟨fb,2,none⟩ (.int .i64 k)).heap[fb]? =some (.cells #[hv,mo,k] T (0,0)):=by
 simp[World.setCell,zni,h]
theorem yiI (F:Nat->Prop)(i:IC)(p:Img)(W:World)(H:IAt F W i p)(hw:∀x∈p.consts,x.wf)(r:Fa×Int×Int)(hr:yaY p=r):
  Calls Tryz.prog 51 #[.agg #[.slice i.ca i.cn i.cc,.slice i.ka i.kn i.kc,.slice i.na i.nn i.nc,i.pl]] W (yoT W r):=by
 have HI:=zhd (H.mono (G:=fun j=>j<W) (fun g _ hl=>hl));have Aa:=H.lens.1;unfold yaY at hr;have A2:= @yeC p;have As:=zhd (fun W' (K:Below W W W')=>ydx F W' i p (H.keep (S:=fun _=>False) (zkb K) (fun _ _ f=>f)) _ hw rfl);generalize imgL p=ie at*;obtain⟨ca,cn,cc,ka,kn,kc,na,nn,nc,pl⟩:=i;dsimp only at Aa As HI;dsimp only;clear H;have HR:=zh3 hr A2 Aa;clear hr A2 Aa;go_in;go_wp2_with fail;obtain⟨W3,U⟩:∃W3,W3=((W.alloc (.cells #[.slice ca cn cc,.slice ka kn kc,.slice na nn nc,pl] 28)).alloc (.cells #[.slice none 0 0,.int .i64 0,.int .i64 0] 110)).alloc (.cells #[.int .i64 0,.int .i64 0] 112):=⟨_,rfl⟩;have B3:Below W W W3:=by rw[U];exact((zal).alloc (by simp) _).alloc (by simp;omega) _
 have b0:W3.heap[W.heap.size]? =some (.cells #[.slice ca cn cc,.slice ka kn kc,.slice na nn nc,pl] 28 (0,0)):=by
  rw[U];exact(zne _ _ _ (by simp;omega)).trans ((zne _ _ _ (by simp)).trans (znb W _))
 have b1:W3.heap[W.heap.size+1]? =some (.cells #[.slice none 0 0,.int .i64 0,.int .i64 0] 110 (0,0)):=by
  rw[U];exact(zne _ _ _ (by simp)).trans yar
 have b2:W3.heap[W.heap.size+1+1]? =some (.cells #[.int .i64 0,.int .i64 0] 112 (0,0)):=by
  rw[U];have:=znb ((W.alloc (.cells #[.slice ca cn cc,.slice ka kn kc,.slice na nn nc,pl] 28)).alloc (.cells #[.slice none 0 0,.int .i64 0,.int .i64 0] 110)) (.cells #[.int .i64 0,.int .i64 0] 112);simpa using this
 have Al:W3.heap.size=W.heap.size+3:=by rw[U];simp
 have R3:Res W W3:=⟨by rw[zch b1];rfl,by rw[zch b1];rfl,by rw[zch b1];rfl,by rw[zch b2];rfl,by rw[zch b2];rfl,fun o=>zfr b1 o,fun o=>zfr b2 o,by omega⟩;rw[<-U];have H3:=zh4 B3 R3 b0 Al;clear U B3 R3 b0 b1 b2 Al;refine(As.o _ H3.o.1).mono ?_;rintro e M ⟨rfl,Af⟩;have Bb:=H3.o.2.1.keep (zkb Af (S:=fun _=>False)) (fun f=>f) (fun f=>f);have B4:=H3.o.1.trans (Af.mono H3.o.1.size);have b0:=(Af.block W (by have:=H3.o.2.2.2;omega)).trans H3.o.2.2.1;have H4:=zh4 Af Bb B4 b0;have q0:=zca b0 0 rfl;have l0:W<M.heap.size:=zlt b0;clear Af Bb B4 b0 As;cases hz:(ie !=0)with
 |true=>
  have hr:=HR.o.1;rw[hz]at hr;simp only[znm]at hr;subst hr;obtain⟨c0,c1,c2,c3,c4,f0,f1,l2⟩:=H4.o.2.1;have l1:W.heap.size+1<M.heap.size:=by omega
  have BB:=zhd (H4.o.2.2.1.trans ((ycz M (W.heap.size+1) (W.heap.size+1+1) 0 1 2 0 1 (.slice none 0 0) (.int .i64 0) (.int .i64 0) (.int .i64 (-1)) (.int .i64 ie)).below (by omega) (fun j hj e=>by omega)));go_wp2_with fail;exact zng (v:=.tuple #[.agg #[.slice none 0 0,.int .i64 0,.int .i64 0],.agg #[.int .i64 (-1),ie]]) (by simp only[results,Tryz.results51];go_simp) rfl ⟨.slice none 0 0,rfl,zhd ⟨RowAt.nil _ _,(fun g h=>by cases h),BB.o⟩⟩
 |false=>
  have hr:=HR.o.1;rw[hz]at hr;simp only[znl]at hr;have OK:=HR.o.2.1 (by simpa using hz);have Z:=zhd OK;have Bc:=zhd hr;clear hr OK;go_wp2_with fail;obtain⟨W5,Ai⟩:∃W5,W5=M.alloc (.cells #[.slice ca cn cc,.slice none 0 0,.slice none 0 0,.int .i64 0] 177):=⟨_,rfl⟩;have A6:=zha Ai;have B5:=zba Ai;have KX5:KX W5 M.heap.size (.slice ca cn cc) ⟨.slice none 0 0,.slice none 0 0⟩ ⟨[],[],0⟩:=⟨A6,RowAt.nil _ _,RowAt.nil _ _,(fun j h=>by cases h),(fun j h=>by cases h),fun j h=>by
   rcases h with h|h|h
   .omega
   .cases h
   .cases h⟩
  rw[<-Ai];have Av:=(HI.o.keep (S:=fun _=>False) (zkb (H4.o.2.2.1.trans (B5.mono (zmn l0)))) (fun _ _ f=>f)).code;obtain⟨q,hq⟩:∃q,walkL p.code=q:=⟨_,rfl⟩;have WK:=zhd (yks M.heap.size _ (fun j hj=>Nat.lt_trans hj l0) ca cn cc p.code W5 KX5 Av Z.o q hq);have H5:=zh3 B5 Av (H4.o.2.1.keep (zkb B5 (S:=fun _=>False)) (fun f=>f) (fun f=>f));have HW:=zhd (show q.1.2=0->q.1.1= -1/\Walked p.code q.2 from fun h=>by rw[<-hq]at h|-;exact yfL Z.o h);have hr:=Bc.o;rw[hq]at hr;have Au:=zhd hr;clear Ai A6 B5 KX5 Av hq hr Bc q0;refine WK.o.mono ?_;rintro e w6 ⟨v6,rfl,H6⟩;have Ba:=H5.o.2.2.keep H6.o.2.1 (fun e=>by have:=H4.o.2.1.l;rcases e with e|e|e;omega;cases e;cases e) (fun e=>by have:=H4.o.2.1.l;rcases e with e|e|e;omega;cases e;cases e);have Aj:=zhd Ba;have B6:=H4.o.2.2.1.trans ((H5.o.1.mono (zmn l0)).trans (H6.o.2.1.below (B:=W.heap.size) (by have:=H5.o.1.size;omega) (fun j hj e=>by rcases e with e|e|e;omega;cases e;cases e)));have Ak:=zhd B6;clear WK Ba B6;cases hz2:(q.1.2 !=0)with
  |true=>
   have hr:=Au.o;rw[hz2]at hr;simp only[znm]at hr;subst hr;go_wp2_with fail;obtain⟨n,N⟩:∃n,n=w6.alloc (.cells #[.int .i64 q.1.1,.int .i64 q.1.2] 112):=⟨_,rfl⟩;have b7:=zha N;have b:=zba N;rw[<-N];obtain⟨c0,c1,c2,c3,c4,f0,f1,l2⟩:=Aj.o.keep (zkb b (S:=fun _=>False)) (fun f=>f) (fun f=>f);have l1:W.heap.size+1<n.heap.size:=by omega
   have x0:=zca b7 0 rfl;have x1:=zca b7 1 rfl;have l7:w6<n.heap.size:=zlt b7;have d1:¬w6.heap.size=W.heap.size+1:=by have:=Aj.o.l;omega
   have d2:¬w6.heap.size=W.heap.size+1+1:=by have:=Aj.o.l;omega
   have BB:=zhd ((Ak.o.trans (b.mono Ak.o.size)).trans ((ycz n (W.heap.size+1) (W.heap.size+1+1) 0 1 2 0 1 (.slice none 0 0) (.int .i64 0) (.int .i64 0) (.int .i64 q.1.1) (.int .i64 q.1.2)).below (by omega) (fun j hj e=>by omega)));clear N b7 b;go_region;go_wp2_with fail;exact zng (v:=.tuple #[.agg #[.slice none 0 0,.int .i64 0,.int .i64 0],.agg #[.int .i64 q.1.1,.int .i64 q.1.2]]) (by simp only[results,Tryz.results51];go_simp) rfl ⟨.slice none 0 0,rfl,zhd ⟨RowAt.nil _ _,(fun g h=>by cases h),BB.o.drew⟩⟩
  |false=>
   have z:q.1.2=0:=by simpa using hz2
   obtain⟨A1,Ah⟩:=HW.o z;have hr:=Au.o;rw[hz2]at hr;simp only[znl]at hr;obtain⟨⟨qa,qb⟩,c⟩:=q;dsimp only at z A1;subst z;subst A1;dsimp only at Ah H6 hr;have WD:=zhd Ah;have At:=zhd hr;have Ap:=zhd (Ah.closed Z.o);clear hr Ah Au HW hz2;obtain⟨vh,vt⟩:=v6;obtain⟨ha,hc,rfl⟩:∃a cap,vh= .slice a c.heights.length cap:=H6.o.1.heights.slice;obtain⟨A,Ac⟩:∃A,A=c.heights:=⟨_,rfl⟩;rw[<-Ac]at H6 At;have qq:∀o,w6.cell? ⟨M,o,none⟩=(#[.slice ca cn cc,.slice ha A.length hc,vt,.int .i64 c.most]:Array Value)[o]? :=fun o=>by rw[zch H6.o.1.h]
   have k0:=qq 0;have k1:=qq 1;have k3:=qq 3;simp only[zmc,zma,zmb]at k0 k1 k3;have lk:M<w6.heap.size:=zlt H6.o.1.h;have A0:A.length=p.code.length:=by rw[Ac];exact WD.o.inv.len
   have A3:p.code.length<=512:=Z.o.len;have HN:=zh3 A0 A3 Ac;have RH:=H6.o.1.heights;rw[<-Ac]at RH;have Bk:=zhd RH;clear qq A0 A3 RH Ac;go_wp2_with fail;obtain⟨n,N⟩:∃n,n=w6.alloc (.cells #[.int .i64 (-1),.int .i64 0] 112):=⟨_,rfl⟩;have b:=zba N;rw[<-N];have k0:=(b.cell (p:=⟨M,0,none⟩) lk).trans k0;have k1:=(b.cell (p:=⟨M,1,none⟩) lk).trans k1;have k3:=(b.cell (p:=⟨M,3,none⟩) lk).trans k3;have l7:=b.size;have H7:=zh4 b (Ak.o.trans (b.mono Ak.o.size)) (Aj.o.keep (zkb b (S:=fun _=>False)) (fun f=>f) (fun f=>f)) (Bk.o.below b);have Ag:M<n.heap.size:=znj lk l7;clear N b lk l7;go_loopg [36] (A.length) (fun gk v36 wr=>∃i:Nat,v36= .int .i64 i/\i<=A.length/\gk=A.length - i/\ycH p.code i (A.drop i)=ycH p.code 0 A/\Below n n wr)
   case atStart=>exact⟨0,rfl,znq _,rfl,rfl,znv _ _⟩
   case round=>
    obtain⟨i,rfl,hi,I,D,d⟩:=hrel;have BW:=H7.o.2.1.trans (d.mono H7.o.2.1.size);have y:=(d.cell (p:=⟨M,0,none⟩) Ag).trans k0;have Ao:=(d.cell (p:=⟨M,1,none⟩) Ag).trans k1;have An:=(d.cell (p:=⟨M,3,none⟩) Ag).trans k3;have Am:M<wr.heap.size:=znj Ag d.size;have RR:=H7.o.2.2.2.below d;by_cases hin:i<A.length
    .obtain⟨x,Q⟩:=yac hin
     have R:A.drop i=x::A.drop (i+1):=by
      rw[znr (zge Q).1,(zge Q).2]
     rw[R,ycH]at D;obtain⟨g,Be,rfl,hg⟩:=RR.addr Q;have m0:=yde RR Q;have A7:(i:Int)<A.length:=by omega
     have Bg:IntKind.i64.wrap ((i:Int)+1)=(i:Int)+1:=zmk _ (by have:=HN.o.1;have:=HN.o.2.1;omega);cases hz3:decide (0<=x)with
     |false=>
      have e0:¬0<=x:=zny hz3;rw[hz3]at D;simp only[Bool.false_and,znl]at D;have L:=zh3 D I d;clear D I d BW RR R Q y Ao An;go_wp2_with fail;go_roundg (A.length - (i+1))
      case measure=>have:=L.o.2.1;omega
      case rel=>exact⟨i+1,by simp,by omega,rfl,L.o.1,L.o.2.2⟩
     |true=>
      have e0:0<=x:=znx hz3;rw[hz3]at D;simp only[Bool.true_and]at D;have RO:=zhd (yjZ M.heap.size _ ca cn cc p.code wr y Am (HI.o.keep (S:=fun _=>False) (zkb BW) (fun _ _ f=>f)).code Z.o (fun k=>∃h,c.heights[k]? =some h/\0<=h) Ap.o i ⟨x,by rw[<-HN.o.2.2];exact Q,e0⟩ _ rfl);generalize roundL p.code i=rl at*;have L:=zh4 D I d BW;clear D I d BW RR R Q y Ao An;go_wp2_with fail;refine RO.o.mono ?_;rintro e w8 ⟨rfl,Ar⟩;have H8:=zhd Ar;have O:=H7.o.2.2.1.keep (zkb (L.o.2.2.1.trans (Ar.mono L.o.2.2.1.size)) (S:=fun _=>False)) (fun f=>f) (fun f=>f);clear Ar RO;cases rl with
      |true=>
       have hf:=L.o.1;simp only[znm]at hf;have hr:=At.o;rw[<-hf]at hr;subst hr;obtain⟨c0,c1,c2,c3,c4,f0,f1,l2⟩:=O;have l1:W.heap.size+1<w8.heap.size:=by omega
       have BB:=zhd ((L.o.2.2.2.trans (H8.o.mono L.o.2.2.2.size)).trans ((ycz w8 (W.heap.size+1) (W.heap.size+1+1) 0 1 2 0 1 (.slice none 0 0) (.int .i64 0) (.int .i64 0) (.int .i64 i) (.int .i64 133)).below (by omega) (fun j hj e=>by omega)));clear hf;go_wp2_with fail;exact zng (v:=.tuple #[.agg #[.slice none 0 0,.int .i64 0,.int .i64 0],.agg #[i,.int .i64 133]]) (by simp only[results,Tryz.results51];go_simp) rfl ⟨.slice none 0 0,rfl,zhd ⟨RowAt.nil _ _,(fun g h=>by cases h),BB.o⟩⟩
      |false=>
       have hf:=L.o.1;simp only[znl]at hf;have HF:=zhd hf;clear hf O;go_wp2_with fail;go_roundg (A.length - (i+1))
       case measure=>have:=L.o.2.1;omega
       case rel=>exact⟨i+1,by simp,by omega,rfl,HF.o,L.o.2.2.1.trans (H8.o.mono L.o.2.2.1.size)⟩
    .obtain rfl:i=A.length:=by omega
     obtain⟨C,rfl⟩:∃C:World,C=wr:=⟨_,rfl⟩;rw[zns (znc _),ycH]at D;have hr:=At.o;rw[<-D]at hr;subst hr;have Bh:=zhd (show∀k,(∃h,c.heights[k]? =some h/\0<=h)->roundL p.code k=false from fun k ⟨h,hh,h0⟩=>by
      have:=ycO A 0 D.symm k h (by rw[HN.o.2.2];exact hh) h0;rwa[Nat.zero_add]at this)
     have Bj:=zhd (fun k hk=>ymD Ap.o Bh.o (k:=k) hk);have O:=zhd (H7.o.2.2.1.keep (zkb d (S:=fun _=>False)) (fun f=>f) (fun f=>f));have L:=zh2 BW RR;obtain⟨ti,Az,tz,ts,tb⟩:=info_parts ynj;obtain⟨cs,Bi,A8⟩:=yfn (P:=Tryz.prog) (t:=79) Tryz.underlying79 Az tz ts tb cn (by have:=HR.o.2.2;have:=HN.o.2.1;omega);have Bl:=zhd A8;clear D I d BW RR k0 k1 k3 Az tz ts tb A8;go_wp2_with fail;go_region;go_wp2_with fail;obtain⟨w9,X⟩:∃w9,w9=((C.alloc (.cells #[.slice ha A.length hc,c.most,.int .i64 0] 110)).alloc (.cells cs 3)).drew:=⟨_,rfl⟩;have B9:Below C C w9:=by rw[X];exact((zal).alloc (by simp) _).drew
     have fb:w9.heap[C.heap.size]? =some (.cells #[.slice ha A.length hc,c.most,.int .i64 0] 110 (0,0)):=by rw[X];exact yaG
     have kr:RowAt w9 3 (.slice (some ⟨C.heap.size+1,0,none⟩) cn cn) (List.replicate cn (0:Int)):=by rw[X];exact(RowAt.made yar Bl.o (by simp) (by have:=HR.o.2.2;have:=HN.o.2.1;unfold maxLen;omega)).drew
     have Ax:w9.heap.size=C.heap.size+2:=by rw[X];simp
     rw[<-X];have H9:=zh5 B9 fb kr Ax y;clear X B9 fb kr Ax y Ao An Bi;go_loopg [72] (A.length) (fun gk v72 wr=>ypB w9 C.heap.size (C.heap.size+1) cn p.code (.slice ha A.length hc) c.most A gk v72 wr)
     case atStart=>exact⟨0,0,_,rfl,znq _,rfl,znq _,rfl,H9.o.2.1,H9.o.2.2.1,by simp,KN.zero _ _,Keeps.refl _ _⟩
     case round=>
      obtain⟨i,m,u,rfl,hi,I,hm,E,J,Ab,A5,Ae,hK⟩:=hrel;have A9:=zhd ((O.o.keep (zkb H9.o.1 (S:=fun _=>False)) (fun f=>f) (fun f=>f)).keep hK (fun e=>by have:=O.o.l;omega) (fun e=>by have:=O.o.l;omega));have Y:=(L.o.2.below H9.o.1).keep hK (fun g hg e=>by have:=L.o.2.lt hg;omega);by_cases hin:i<A.length
      .obtain⟨x,Q⟩:=yac hin
       have R:A.drop i=x::A.drop (i+1):=by
        rw[znr (zge Q).1,(zge Q).2]
       rw[R,ycK]at E;obtain⟨g,Be,rfl,hg⟩:=Y.addr Q;have m0:=yde Y Q;have A7:(i:Int)<A.length:=by omega
       have Bg:IntKind.i64.wrap ((i:Int)+1)=(i:Int)+1:=zmk _ (by have:=HN.o.1;have:=HN.o.2.1;omega);cases hz3:decide (0<=x)with
       |false=>
        have e0:¬0<=x:=zny hz3;rw[hz3]at E;simp only[znl]at E;have V:=zh6 E I J Ab Ae hK;clear E I J Ab Ae hK Y R Q;go_wp2_with fail;go_roundg (A.length - (i+1))
        case measure=>have:=V.o.2.1;omega
        case rel=>exact⟨i+1,m,u,by simp,by omega,rfl,hm,V.o.1,V.o.2.2.1,V.o.2.2.2.1,A5,V.o.2.2.2.2.1,V.o.2.2.2.2.2⟩
       |true=>
        have e0:0<=x:=znx hz3;rw[hz3]at E;simp only[znm]at E;have Aq:∃h,c.heights[i]? =some h/\0<=h:=⟨x,by rw[<-HN.o.2.2];exact Q,e0⟩;have KW:=Keeps.trans (S:=fun j=>C<=j) (T:=fun j=>j=C\/j=C+1) ((zkb H9.o.1 (S:=fun _=>False)).mono (fun _ _ f=>f.elim)) hK (fun j hj e=>by omega);have kz:=(KW.cell (p:=⟨M,0,none⟩) Am (by show¬C<=M.heap.size;omega)).trans H9.o.2.2.2.2;have Ay:M<wr.heap.size:=znj Am KW.size;have Bd:=(HI.o.keep (S:=fun _=>False) (zkb L.o.1) (fun _ _ f=>f)).keep KW (fun g hg e=>by have:=L.o.1.size;omega);have CS:=zhd (fun W' (K:Below wr wr W')=>yls M.heap.size (fun j=>j<W) ca cn cc p.code Z.o (fun k=>∃h,c.heights[k]? =some h/\0<=h) Ap.o (C.heap.size+1) 0 cn (by omega) (fun j hj=>by have:=L.o.1.size;omega) (p.code.length+1) i W' u (by have:=HN.o.2.1;omega) (Bj.o i Aq) Aq ((K.cell (p:=⟨M,0,none⟩) Ay).trans kz) (znj Ay K.size) (Bd.keep (S:=fun _=>False) (zkb K) (fun _ _ f=>f)).code (Ab.below K) A5 Ae);have Bm:=yfO p.code (p.code.length+1) i
        generalize spF p.code (p.code.length+1) i=s at*;have p2:=zca J 2 rfl;have lf:C<wr.heap.size:=zlt J;have A4:max (m:Int) (s:Int)=((max m s:Nat):Int):=by omega
        have HM:=zhd A4;have V:=zh5 E I J hK KW;clear E I J Ab Ae hK KW Y R Q Aq kz Bd A4;go_wp2_with fail;go_region_law
         ((go_simp;go_at_call 97;refine(CS.o _ ((znv _ _).drew)).mono ?_;rintro e w8 ⟨rfl,H8⟩;obtain⟨Bf,g1,g2,g3,g4⟩:=H8.o;have Ad:=(g4.block C lf (by omega)).trans V.o.2.2.1;have y2:w8.cell? ⟨C,2,none⟩=some (.int .i64 m):=(by rw[zch Ad];rfl);have fy:∀o,w8.frozen? ⟨C,o,none⟩=false:=(fun o=>zfr Ad o);have ly:C<w8.heap.size:=(zlt Ad);have HG:=zh5 g1 g2 g3 (((Keeps.refl (fun j=>j=C+1) wr).drew).comp g4) Ad;clear g1 g2 g3 g4 Ad))
        all_goals
         go_wp2_with fail;go_roundg (A.length - (i+1))
         case measure=>have:=V.o.2.1;omega
         refine⟨i+1,max m s,Bf,by simp,by omega,rfl,by have:=HN.o.2.1;omega,V.o.1,?_,HG.o.1.keep (Keeps.setCell (S:=fun j=>j=C) (p:=⟨C,2,none⟩) (Keeps.refl _ _) (.inl rfl) _) (fun g hg e=>by have h1:C.heap.size+1=g:=Option.some.inj hg;omega),HG.o.2.1,HG.o.2.2.1,?_⟩
         .rw[<-HM.o]
          exact ylw HG.o.2.2.2.2 _
         .exact(V.o.2.2.2.1.trans (T:=fun j=>j=C+1) (HG.o.2.2.2.1) (fun j _ e=>.inr e)).trans (T:=fun j=>j=C) (Keeps.setCell (S:=fun j=>j=C) (p:=⟨C,2,none⟩) (Keeps.refl _ _) (.inl rfl) _) (fun j _ e=>.inl e)
      .obtain rfl:i=A.length:=by omega
       rw[zns (znc _),ycK]at E;have e0:=zca J 0 rfl;have e1:=zca J 1 rfl;have e2:=zca J 2 rfl;have lf:C<wr.heap.size:=zlt J;have d1:¬C.heap.size=W.heap.size+1:=by have:=O.o.l;omega
       have d2:¬C.heap.size=W.heap.size+1+1:=by have:=O.o.l;omega
       have Bz:Below W W wr:=L.o.1.trans ((H9.o.1.mono L.o.1.size).trans (hK.below (by have:=L.o.1.size;have:=H9.o.1.size;omega) (fun j hj e=>by have:=L.o.1.size;omega)));have V:=zh3 E Bz Y;clear E Bz Y J Ab Ae hK I;obtain⟨c0,c1,c2,c3,c4,f0,f1,l2⟩:=A9.o;have l1:W.heap.size+1<wr.heap.size:=by omega
       have KF:=ycz wr (W.heap.size+1) (W.heap.size+1+1) 0 1 2 0 1 (.slice ha A.length hc) (.int .i64 c.most) (.int .i64 m) (.int .i64 (-1)) (.int .i64 0);have BB:=zh2 (V.o.2.1.trans (KF.below (by omega) (fun j hj e=>by omega))) (V.o.2.2.keep KF (fun g hg e=>by have:=H6.o.1.lo g (.inr (.inl hg));have:=H4.o.2.1.l;omega));clear KF;go_wp2_with fail;exact zng (v:=.tuple #[.agg #[.slice ha A.length hc,c.most,m],.agg #[.int .i64 (-1),.int .i64 0]]) (by simp only[results,Tryz.results51];go_simp) rfl ⟨.slice ha A.length hc,by rw[<-V.o.1],zhd ⟨BB.o.2,(fun g hg=>by have:=H6.o.1.lo g (.inr (.inl hg));have:=H4.o.2.1.l;omega),BB.o.1⟩⟩
end Go.Proofs.YtpagmlndgblhhaaGreatDoor
namespace Go.Va
open Go.Own
theorem yh1 {code:List In}{B:Nat}:∀(l:List Int) (k m:Nat),m<=B->(∀(j:Nat) (h:Int),l[j]? =some h->0<=h->spF code (code.length+1) (k+j)<=B)->ycK code k l m<=B
 |[],_,_,hm,_=>hm
 |y::r,k,m,hm,h=>by
  rw[ycK];refine yh1 r (k+1) _ ?_ (fun j hh hj h0=> ?_)
  .by_cases h0:0<=y
   .rw[zno h0]
    have:=h 0 y rfl h0;rw[Nat.add_zero]at this;exact Nat.max_le.2 ⟨hm,this⟩
   .rw[znd h0]
    exact hm
  .have:=h (j+1) hh (by simpa using hj) h0
   rwa[show k+(j+1)=k+1+j by omega]at this
theorem yh2 {code:List In}:∀(l:List Int) (k m:Nat),m<=ycK code k l m
 |[],_,_=>znc _
 |y::r,k,m=>by
  rw[ycK];refine znf ?_ (yh2 (code:=code) r (k+1) _);cases decide (0<=y)
  .exact znc _
  .exact Nat.le_max_left ..
theorem yh3 {code:List In}:∀(l:List Int) (k m j:Nat) (h:Int),l[j]? =some h->0<=h->spF code (code.length+1) (k+j)<=ycK code k l m
 |[],_,_,_,_,h,_=>by simp at h
 |y::r,k,m,0,h,hh,h0=>by
  simp at hh;subst hh;rw[ycK,zno h0];have:=yh2 (code:=code) r (k+1) (max m (spF code (code.length+1) k));exact znf (Nat.le_max_right ..) this
 |y::r,k,m,j+1,h,hh,h0=>by
  rw[ycK,show k+(j+1)=k+1+j by omega];exact yh3 r (k+1) _ j h (by simpa using hh) h0
end Go.Va
namespace Go.Proofs.YtpagmlndgblhhaaGreatDoor
open Go.RowKit Go.Own Go.Own.MapTy Go.Va Go.Sort
open Go.Own.Cells (sz enc)
structure Known (p:Img)(fa:Fa):Prop where
 img:imgL p=0
 len:fa.heights.length=p.code.length
 zero:fa.heights[0]? =some 0
 most:0<=fa.most
 low:∀(k:Nat) (h:Int),fa.heights[k]? =some h-> -1<=h/\h<=32
 done:∀(k:Nat) (h:Int),fa.heights[k]? =some h->0<=h->DoneAt p.code fa.heights fa.most k h
 dn:∀(k:Nat) (h:Int),fa.heights[k]? =some h->0<=h->dnF p.code (p.code.length+1) k
 span:∀(k:Nat) (h:Int),fa.heights[k]? =some h->0<=h->((spF p.code (p.code.length+1) k:Nat):Int)<=fa.span
theorem ydo {p:Img}{fa:Fa}{a e:Int}(h:yaY p=(fa,a,e)):(e≠0->fa=yn8)/\(e=0->a= -1/\Known p fa):=by
 unfold yaY at h;cases h1:(imgL p !=0)with
 |true=>
  rw[h1]at h;simp only[znm,Prod.mk.injEq]at h;exact⟨fun _=>h.1.symm,fun e0=>by rw[<-h.2.2]at e0;rw[e0]at h1;cases h1⟩
 |false=>
  have E:imgL p=0:=by simpa using h1
  have F:=yeC E;rw[h1]at h;simp only[znl]at h;cases h2:((walkL p.code).1.2 !=0)with
  |true=>
   rw[h2]at h;simp only[znm,Prod.mk.injEq]at h;have D:(walkL p.code).1.2=e:=congrArg Prod.snd h.2;exact⟨fun _=>h.1.symm,fun e0=>by rw[D,e0]at h2;cases h2⟩
  |false=>
   rw[h2]at h;simp only[znl]at h;obtain⟨_,A⟩:=yfL F (by simpa using h2);generalize(walkL p.code).2=st at h A;cases h3:ycH p.code 0 st.heights with
   |some k=>
    rw[h3]at h;simp only[Prod.mk.injEq]at h;exact⟨fun _=>h.1.symm,fun e0=>by have:=h.2.2;omega⟩
   |none=>
    rw[h3]at h;simp only[Prod.mk.injEq]at h;obtain⟨H,D,G⟩:=h;refine⟨fun e0=>absurd G.symm e0,fun _=>⟨D.symm,?_⟩⟩;subst H;have C:=A.closed F;have B:∀k,(∃h,st.heights[k]? =some h/\0<=h)->roundL p.code k=false:=fun k ⟨h,hh,h0⟩=>by
     have:=ycO st.heights 0 h3 k h hh h0;rwa[Nat.zero_add]at this
    exact⟨E,A.inv.len,A.zero,A.inv.m0,fun k h hh=>A.inv.all h (zmg hh),A.done,fun k h hh h0=>ymD C B ⟨h,hh,h0⟩,fun k h hh h0=>by
     have:=yh3 (code:=p.code) st.heights 0 0 k h hh h0;rw[Nat.zero_add]at this;show _<=((ycK p.code 0 st.heights 0:Nat):Int);omega⟩
theorem Known.step {p:Img}{fa:Fa}(K:Known p fa){k:Nat}{h run:Int}(hh:fa.heights[k]? =some h)(h0:0<=h)(hr:run+((spF p.code (p.code.length+1) k:Nat):Int)<=fa.span):
  ∃c,p.code[k]? =some c/\(ofL c.op).2=true/\0<=c.a/\c.a<=512/\0<=yaC c/\yaC c<=512/\0<=(ofL c.op).1.o/\(ofL c.op).1.o<=2/\yaC c<=h/\run+1<=fa.span/\
   ∀x∈followN c k,x<p.code.length/\∃h',h'=h+((ofL c.op).1.o - yaC c)/\fa.heights[x]? =some h'/\0<=h'/\h'<=fa.most/\(bif restsL c then 0 else run+1)+((spF p.code (p.code.length+1) x:Nat):Int)<=fa.span:=by
 obtain⟨c,G,i,g,f,S⟩:=K.done k h hh h0;have F:=yeC K.img;have A:=zmg G;obtain⟨Z,Y,_,_,_,_,_,_,L⟩:=yb3 K.img;obtain⟨P,O,T⟩:=L c A;have hm:mostL p (ofL c.op).1.operand<=513:=by
  unfold mostL;obtain⟨_,_,X,W,V,U,_,_,_⟩:=yb3 K.img;cases((ofL c.op).1.operand==1)<;>cases((ofL c.op).1.operand==2)<;>cases((ofL c.op).1.operand==3)<;>cases((ofL c.op).1.operand==4)<;>cases((ofL c.op).1.operand==5)<;>simp<;>omega
 have M:=yjR (K.dn k h hh h0);refine⟨c,G,P,O,by omega,(F.tk c A).1,(F.tk c A).2,(F.o c A).1,(F.o c A).2,by omega,by omega,fun x hx=> ?_⟩;obtain⟨H,D⟩:=S x hx;have d:=(F.o c A).1;refine⟨H,h - yaC c+(ofL c.op).1.o,by omega,D,by omega,by omega,?_⟩;have Q:=K.span x _ D (by omega);cases hra:restsL c with
 |true=>simp only[znm];omega
 |false=>
  simp only[znl];have B:yaq p.code k=false:=by unfold yaq;rw[G];exact hra
  have E:yas p.code k=followN c k:=by unfold yas;rw[G]
  have N:=K.dn k h hh h0;rw[dnF]at N;have J:=N.resolve_left (by rw[B];simp) x (by rw[E];exact hx);have b:spF p.code (p.code.length+1) k=(followN c k).foldl (fun n x=>max n (spF p.code p.code.length x)) 0+1:=by
   rw[spF,B,E];rfl
  have I:∀(l:List Nat) (a:Nat),x∈l->spF p.code p.code.length x<=l.foldl (fun n x=>max n (spF p.code p.code.length x)) a:=fun l=>by
   have C:∀(l:List Nat) (a:Nat),a<=l.foldl (fun n x=>max n (spF p.code p.code.length x)) a:=fun l=>by
    induction l with
    |nil=>exact fun a=>znc _
    |cons y r ih=>exact fun a=>znf (Nat.le_max_left ..) (ih _)
   induction l with
   |nil=>intro a h;cases h
   |cons y r ih=>
    intro a h;rw[List.foldl_cons];rcases List.mem_cons.1 h with rfl|h
    .exact znf (Nat.le_max_right ..) (C r _)
    .exact ih _ h
  have e:=I (followN c k) 0 hx;have R:=(yey J (Nat.le_succ _)).2;rw[R];omega
end Go.Proofs.YtpagmlndgblhhaaGreatDoor
namespace Go.Va
open Go.Own Go.RowKit
def yao:List Th->Nat
 |[]=>0
 |x::r=>(bif x.over then 1 else 0)+yao r
def pot (s:MS):Nat:=s.letters.length+(yao s.timers.list+yao s.acts.list)
theorem yeg:∀(l r:List Th),yao (l++r)=yao l+yao r
 |[],r=>by simp[yao]
 |x::l,r=>by rw[List.cons_append,yao,yao,yeg l r];omega
theorem ycN:∀(l:List Th) (i:Nat) (x:Th),l[i]? =some x->yao (l.eraseIdx i)+(bif x.over then 1 else 0)=yao l
 |[],_,_,h=>by simp at h
 |y::r,0,x,h=>by
  simp at h;subst h;rw[List.eraseIdx_zero,List.tail_cons,yao];omega
 |y::r,i+1,x,h=>by
  rw[List.eraseIdx_cons_succ,yao,yao];have:=ycN r i x (by simpa using h);omega
theorem findT_some {id:Int}:∀{l:List Th} {i:Nat},yav id l=some i->∃x,l[i]? =some x/\x.id=id
 |[],i,h=>by cases h
 |y::r,i,h=>by
  rw[yav]at h;by_cases he:y.id=id
  .rw[if_pos he]at h
   cases h;exact⟨y,rfl,he⟩
  .rw[if_neg he]at h
   cases hf:yav id r with
   |none=>rw[hf]at h;cases h
   |some j=>
    rw[hf]at h;cases h;obtain⟨x,h1,h2⟩:=findT_some hf;exact⟨x,h1,h2⟩
theorem findLt_some {name:ByteArray}:∀{l:List Lt} {i:Nat},yap name l=some i->∃x,l[i]? =some x/\x.name=name
 |[],i,h=>by cases h
 |y::r,i,h=>by
  rw[yap]at h;by_cases he:y.name=name
  .rw[if_pos he]at h
   cases h;exact⟨y,rfl,he⟩
  .rw[if_neg he]at h
   cases hf:yap name r with
   |none=>rw[hf]at h;cases h
   |some j=>
    rw[hf]at h;cases h;obtain⟨x,h1,h2⟩:=findLt_some hf;exact⟨x,h1,h2⟩
theorem ykM {α:Type}{l:List α}{i:Nat}{x:α}(h:l[i]? =some x):(l.eraseIdx i).length+1=l.length:=by
 have:=(zge h).1;rw[List.length_eraseIdx,if_pos this];omega
structure Eff (s s':MS)(n m q:Nat):Prop where
 at_:s'.at_=s.at_
 len:s'.stk.length=s.stk.length - n+m
 pot:pot s'+q<=pot s
theorem ybt (s:MS)(why:ByteArray):(s.fall why).over=true:=by simp[MS.fall,MS.want]
theorem yj2 (s:MS)(v:Val):(s.put v).over=true\/s.put v=s.push v:=by
 unfold MS.put;split
 .exact .inl (ybt _ _)
 .exact .inr rfl
theorem ylb (s:MS)(op:Int)(a b:Val):(s.arith op a b).over=true\/∃x,s.arith op a b=s.push x:=by
 unfold MS.arith;split
 .exact .inl (ybt _ _)
 .exact .inr ⟨_,rfl⟩
theorem ymO (s:MS)(op:Int)(a b:Val):(s.two op a b).over=true\/∃x,s.two op a b=s.push x:=by
 have A:∀v,(s.put v).over=true\/∃x,s.put v=s.push x:=fun v=>(yj2 s v).imp id (fun h=>⟨v,h⟩);unfold MS.two
 repeat' split
 all_goals first|exact .inr ⟨_,rfl⟩|exact .inl (ybt _ _)|exact A _|exact ylb s op a b
def tkR (op:Int)(k:Nat):Nat:=if op=29 then k else if op=10\/op=31 then 1 else 2
theorem yaT (s:MS)(op:Int)(k:Nat):(s.reckon op k).over=true\/Eff s (s.reckon op k) (tkR op k) 1 0:=by
 have A:∀(l:List Val) (x:Val),l.length=s.stk.length - tkR op k->Eff s (({s with stk:=l}:MS).push x) (tkR op k) 1 0:=fun l x B=>⟨rfl,by show(l++[x]).length=_;rw[znk,B];rfl,znc _⟩;unfold MS.reckon;by_cases h1:op=29
 .rw[if_pos h1]
  rcases yj2 ({s with stk:=s.stk.take (s.stk.length - k)}:MS) (.mk 3 0 ⟨#[]⟩ (s.stk.drop (s.stk.length - k)))with h|h
  .exact .inl h
  .rw[h]
   exact .inr (A _ _ (by rw[List.length_take,tkR,if_pos h1];omega))
 .rw[if_neg h1]
  by_cases h2:op=10
  .rw[if_pos h2]
   exact .inr (A _ _ (by rw[zmi,tkR,if_neg h1,if_pos (.inl h2)]))
  .rw[if_neg h2]
   by_cases h3:op=31
   .rw[if_pos h3]
    have B:s.stk.dropLast.length=s.stk.length - tkR op k:=by rw[zmi,tkR,if_neg h1,if_pos (.inr h3)]
    split
    .exact .inr (A _ _ B)
    .split
     .exact .inr (A _ _ B)
     .exact .inl (ybt _ _)
   .rw[if_neg h3]
    rcases ymO s.pop.pop op s.pop.top s.top with h|⟨x,h⟩
    .exact .inl h
    .rw[h]
     refine .inr (A _ _ ?_);show s.stk.dropLast.dropLast.length=_;rw[zmi,zmi,tkR,if_neg h1,if_neg (by omega)];omega
theorem yeH (s:MS)(op:Int)(name:ByteArray)(hl:(if op=20 then 2 else 1)<=s.stk.length):(s.begin_ op name).over=true\/Eff s (s.begin_ op name) (if op=20 then 2 else 1) 1 0:=by
 unfold MS.begin_;by_cases h19:op=19
 .rw[if_pos h19]
  dsimp only;cases hf:(if s.top.kind=1 then yav s.top.num s.timers.list else none)with
  |none=>exact .inl (ybt _ _)
  |some i=>
   dsimp only;have A:yav s.top.num s.timers.list=some i:=by
    split at hf
    .exact hf
    .cases hf
   obtain⟨x,B,_⟩:=findT_some A;have C:=ycN _ _ _ B;rw[B];dsimp only[Option.getD];refine .inr ?_;cases hov:x.over with
   |true=>
    rw[hov]at C;refine⟨rfl,?_,?_⟩
    .show(s.stk.dropLast++[_]).length=_
     rw[znk,zmi,if_neg (by omega)];rfl
    .show s.letters.length+(yao (s.timers.list.eraseIdx i)+yao s.acts.list)+0<=s.letters.length+(yao s.timers.list+yao s.acts.list)
     omega
   |false=>
    rw[hov]at C;refine⟨rfl,?_,?_⟩
    .show(s.stk.dropLast++[_]).length=_
     rw[znk,zmi,if_neg (by omega)];rfl
    .show s.letters.length+(yao (s.timers.list.eraseIdx i)+yao s.acts.list)+0<=s.letters.length+(yao s.timers.list+yao s.acts.list)
     omega
 .rw[if_neg h19]
  dsimp only;split
  .exact .inl (ybt _ _)
  .split
   .exact .inl (ybt _ _)
   .refine .inr ?_
    by_cases h20:op=20
    .rw[if_pos h20,if_pos h20]
     rw[if_pos h20]at hl;refine⟨rfl,?_,?_⟩
     .show(s.stk.dropLast.dropLast++[_]).length=_
      rw[znk,zmi,zmi,zmh];omega
     .show s.letters.length+(yao s.timers.list+yao (s.acts.list++[_]))+0<=s.letters.length+(yao s.timers.list+yao s.acts.list)
      rw[yeg];simp[yao]
    .rw[if_neg h20,if_neg h20]
     refine⟨rfl,?_,?_⟩
     .show(s.stk.dropLast++[_]).length=_
      rw[znk,zmi,zmh]
     .show s.letters.length+(yao (s.timers.list++[_])+yao s.acts.list)+0<=s.letters.length+(yao s.timers.list+yao s.acts.list)
      rw[yeg];simp[yao]
theorem yei {s:MS}{i:Nat}{name:ByteArray}(h:yap name s.letters=some i):pot (s.openL i)+1=pot s:=by
 obtain⟨x,A,_⟩:=findLt_some h;have:=ykM A;show(s.letters.eraseIdx i).length+(yao s.timers.list+yao s.acts.list)+1=s.letters.length+(yao s.timers.list+yao s.acts.list);omega
theorem yll (s s':MS)(op:Int)(name:ByteArray)(hop:op=18\/op=21\/op=22\/op=28)(h:s.wait op name=some s'):s'.over=true\/(s'.at_=s.at_+1/\s'.stk.length=s.stk.length - (ofL op).1.i.toNat+(ofL op).1.o.toNat/\pot s'+1=pot s):=by
 unfold MS.wait at h;by_cases h22:op=22
 .subst h22
  rw[if_pos rfl]at h;cases hf:yap name s.letters with
  |none=>rw[hf]at h;cases h
  |some i=>
   rw[hf]at h;cases h;refine .inr ⟨rfl,?_,yei hf⟩;show(s.stk++[_]).length=_;rw[znk];rfl
 .rw[if_neg h22]at h
  dsimp only at h;cases hf:(if s.top.kind=1 then yav s.top.num (if op=21 then s.acts.list else s.timers.list)else none)with
  |none=>
   rw[hf]at h;cases h;exact .inl (ybt _ _)
  |some i=>
   rw[hf]at h;dsimp only at h;have C:yav s.top.num (if op=21 then s.acts.list else s.timers.list)=some i:=by
    split at hf
    .exact hf
    .cases hf
   obtain⟨x,D,_⟩:=findT_some C;cases hk:(if op=28 then yap name s.letters else none)with
   |some k=>
    rw[hk]at h;cases h;by_cases A:op=28
    .subst A
     rw[if_pos rfl]at hk;refine .inr ⟨rfl,?_,yei (s:=s.pop) hk⟩;show((s.stk.dropLast++[_])++[_]).length=_;rw[znk,znk,zmi];rfl
    .rw[if_neg A]at hk
     cases hk
   |none=>
    rw[hk,D]at h;dsimp only[Option.getD]at h;have B:=ycN _ _ _ D;cases hov:x.over with
    |false=>rw[hov]at h;cases h
    |true=>
     rw[hov]at h B;simp only[Bool.not_true,znl,Option.some.injEq]at h;by_cases h21:op=21
     .subst h21
      rw[if_neg (by decide),if_pos rfl]at h;rw[if_pos rfl]at h B;subst h;refine .inr ⟨rfl,?_,?_⟩
      .show((s.stk.dropLast++[_])++[_]).length=_
       rw[znk,znk,zmi];rfl
      .show s.letters.length+(yao s.timers.list+yao ((if(21:Int)=21 then s.acts.list else s.timers.list).eraseIdx i))+1=s.letters.length+(yao s.timers.list+yao s.acts.list)
       simp only[znm]at B;rw[if_pos rfl];omega
     .rw[if_neg h21,if_neg h21,if_neg h21]at h
      rw[if_neg h21]at B;simp only[znm]at B;by_cases h18:op=18
      .subst h18
       rw[if_pos rfl]at h;subst h;refine .inr ⟨rfl,?_,?_⟩
       .show(s.stk.dropLast++[_]).length=_
        rw[znk,zmi];rfl
       .show s.letters.length+(yao (s.timers.list.eraseIdx i)+yao s.acts.list)+1=s.letters.length+(yao s.timers.list+yao s.acts.list)
        omega
      .rw[if_neg h18]at h
       have A:op=28:=by omega
       subst A;subst h;refine .inr ⟨rfl,?_,?_⟩
       .show((s.stk.dropLast++[_])++[_]).length=_
        rw[znk,znk,zmi];rfl
       .show s.letters.length+(yao (s.timers.list.eraseIdx i)+yao s.acts.list)+1=s.letters.length+(yao s.timers.list+yao s.acts.list)
        omega
theorem ym4 {s s':MS}{n m q:Nat}(h:Eff s.nxt s' n m q):s'.at_=s.at_+1/\s'.stk.length=s.stk.length - n+m/\pot s'+q<=pot s:=⟨h.at_,h.len,h.pot⟩
theorem ya7 (s:MS)(x:Val):(s.push x).stk.length=s.stk.length+1:=by
 show(s.stk++[x]).length=_;rw[znk];rfl
theorem pop_len (s:MS):s.pop.stk.length=s.stk.length - 1:=zmi
theorem yoj (s:MS)(p:Img)(op:Int)(k:Nat)(h0:0<=op)(h1:op<33)(hb:(ofL op).1.blocks=false)(he:(ofL op).1.ends=false)(hf:(ofL op).1.flow=false)(hl:(if op=29 then k else(ofL op).1.i.toNat)<=s.stk.length):
  (s.go p op k).over=true\/Eff s (s.go p op k) (if op=29 then k else(ofL op).1.i.toNat) (ofL op).1.o.toNat 0:=by
 have B:op=0\/op=1\/op=2\/op=3\/op=4\/op=13\/op=14\/op=15\/op=16\/op=17\/op=19\/op=20\/op=23\/op=24\/op=5\/op=6\/op=7\/op=8\/op=9\/op=10\/op=29\/op=30\/op=31\/op=32:=by
  have:op=11\/op=12\/op=18\/op=21\/op=22\/op=25\/op=26\/op=27\/op=28\/¬(op=11\/op=12\/op=18\/op=21\/op=22\/op=25\/op=26\/op=27\/op=28):=by omega
  rcases this with rfl|rfl|rfl|rfl|rfl|rfl|rfl|rfl|rfl|h
  .cases hf
  .cases hf
  .cases hb
  .cases hb
  .cases hb
  .cases he
  .cases he
  .cases he
  .cases hb
  .omega
 have A:∀l:List Val,l.dropLast.length=l.length - 1:=fun l=>zmi;rcases B with rfl|rfl|rfl|rfl|rfl|rfl|rfl|rfl|rfl|rfl|rfl|rfl|rfl|rfl|rfl|rfl|rfl|rfl|rfl|rfl|rfl|rfl|rfl|rfl
 .exact .inr ⟨rfl,rfl,znc _⟩
 .exact .inr ⟨rfl,ya7 s _,znc _⟩
 .exact .inr ⟨rfl,pop_len s,znc _⟩
 .refine .inr ⟨rfl,(ya7 s _).trans ?_,znc _⟩
  have hl:1<=s.stk.length:=hl;show s.stk.length+1=s.stk.length - 1+2;omega
 .refine .inr ⟨rfl,(ya7 (s.pop.pop.push s.top) s.pop.top).trans ?_,znc _⟩
  rw[ya7,pop_len,pop_len];show s.stk.length - 1 - 1+1+1=s.stk.length - 2+2;omega
 .exact .inr ⟨rfl,ya7 s _,znc _⟩
 .exact .inr ⟨rfl,pop_len s,znc _⟩
 .exact .inr ⟨rfl,ya7 s _,znc _⟩
 .exact .inr ⟨rfl,ya7 s _,znc _⟩
 .exact yeH s 17 _ hl
 .exact yeH s 19 (p.names[k]?.getD ⟨#[]⟩) hl
 .exact yeH s 20 _ hl
 .have e:s.go p 23 k=match yap (p.names[k]?.getD ⟨#[]⟩) s.letters with
   |some i=>((s.openL i).push (s.letV i)).push (yaK true)
   |none=>(s.push yag).push (yaK false):=rfl
  rw[e];cases hq:yap (p.names[k]?.getD ⟨#[]⟩) s.letters with
  |some i=>exact .inr ⟨rfl,(ya7 ((s.openL i).push (s.letV i)) _).trans (by rw[ya7];rfl),by have:=yei hq;show pot (s.openL i)+0<=pot s;omega⟩
  |none=>exact .inr ⟨rfl,(ya7 (s.push yag) _).trans (by rw[ya7];rfl),znc _⟩
 .exact .inr ⟨rfl,ya7 s _,znc _⟩
 .exact yaT s 5 k
 .exact yaT s 6 k
 .exact yaT s 7 k
 .exact yaT s 8 k
 .exact yaT s 9 k
 .exact yaT s 10 k
 .exact yaT s 29 k
 .exact yaT s 30 k
 .exact yaT s 31 k
 .exact yaT s 32 k
theorem yk5 {op:Int}(h0:0<=op)(h1:op<33)(h:(ofL op).1.blocks=true):op=18\/op=21\/op=22\/op=28:=by
 have A:op=0\/op=1\/op=2\/op=3\/op=4\/op=5\/op=6\/op=7\/op=8\/op=9\/op=10\/op=11\/op=12\/op=13\/op=14\/op=15\/op=16\/op=17\/op=19\/op=20\/op=23\/op=24\/op=25\/op=26\/op=27\/op=29\/op=30\/op=31\/op=32\/(op=18\/op=21\/op=22\/op=28):=by omega
 rcases A with rfl|rfl|rfl|rfl|rfl|rfl|rfl|rfl|rfl|rfl|rfl|rfl|rfl|rfl|rfl|rfl|rfl|rfl|rfl|rfl|rfl|rfl|rfl|rfl|rfl|rfl|rfl|rfl|rfl|h1
 all_goals first|exact h1|cases h
theorem yma (s:MS){op:Int}(name:ByteArray):(s.end_ op name).over=true:=by
 unfold MS.end_;split
 .simp[MS.want]
 .split<;>simp[MS.want]
theorem yh0 {p:Img}{s s':MS}{c:In}(hc:p.code[s.at_]? =some c)(h0:0<=c.op)(h1:c.op<33)(ha:0<=c.a)(hh:yaC c<=s.stk.length)(h:yak p s=some s'):
  s'.over=true\/(s'.at_∈followN c s.at_/\(s'.stk.length:Int)=s.stk.length+((ofL c.op).1.o - yaC c)/\pot s'+(bif restsL c then 1 else 0)<=pot s):=by
 unfold yak at h;rw[hc]at h;dsimp only[Option.getD]at h;unfold followN restsL;cases hb:(ofL c.op).1.blocks with
 |true=>
  rw[hb]at h;simp only[znm]at h;have B:=yk5 h0 h1 hb;rcases yll _ _ _ _ B h with h|⟨J,I,M⟩
  .exact .inl h
  .refine .inr ⟨?_,?_,?_⟩
   .rw[J]
    rcases B with e|e|e|e<;>rw[e]<;>exact List.mem_singleton.2 rfl
   .rw[I]
    unfold yaC at hh|-;rcases B with e|e|e|e
    all_goals
     rw[e]at hh|-
     first|(have hh:(1:Int)<=s.stk.length:=hh;show((s.stk.length - 1+1:Nat):Int)=s.stk.length+(1 - 1);omega)|(have hh:(1:Int)<=s.stk.length:=hh;show((s.stk.length - 1+2:Nat):Int)=s.stk.length+(2 - 1);omega)|(show((s.stk.length - 0+1:Nat):Int)=s.stk.length+(1 - 0);omega)
   .simp only[Bool.true_or,znm]
    omega
 |false=>
  rw[hb]at h;simp only[znl]at h;cases he:(ofL c.op).1.ends with
  |true=>
   rw[he]at h;simp only[znm,Option.some.injEq]at h;rw[<-h];exact .inl (yma _ _)
  |false=>
   rw[he]at h;simp only[znl,Bool.or_false]at h|-;cases hf:(ofL c.op).1.flow with
   |true=>
    rw[hf]at h;simp only[znm,Option.some.injEq]at h;have F:pot s.pop=pot s:=rfl;cases A:(c.op==11)with
    |true=>
     rw[A]at h;simp only[znm]at h|-;rw[<-h];have e:c.op=11:=by simpa using A
     refine .inr ⟨List.mem_singleton.2 rfl,?_,znc _⟩;unfold yaC;rw[e];show(s.stk.length:Int)=s.stk.length+(0 - 0);omega
    |false=>
     rw[A]at h;simp only[znl]at h|-;have e:c.op=12:=by
      have G:∀op:Int,0<=op->op<33->(ofL op).1.flow=true->op≠11->op=12:=fun op h0 h1 h hn=>by
       have hc:op=0\/op=1\/op=2\/op=3\/op=4\/op=5\/op=6\/op=7\/op=8\/op=9\/op=10\/op=13\/op=14\/op=15\/op=16\/op=17\/op=18\/op=19\/op=20\/op=21\/op=22\/op=23\/op=24\/op=25\/op=26\/op=27\/op=28\/op=29\/op=30\/op=31\/op=32\/op=12:=by omega
       rcases hc with rfl|rfl|rfl|rfl|rfl|rfl|rfl|rfl|rfl|rfl|rfl|rfl|rfl|rfl|rfl|rfl|rfl|rfl|rfl|rfl|rfl|rfl|rfl|rfl|rfl|rfl|rfl|rfl|rfl|rfl|rfl|e
       all_goals first|exact e|cases h
      exact G c.op h0 h1 hf (by simpa using A)
     have C:((s.stk.length - 1:Nat):Int)=s.stk.length+((ofL c.op).1.o - yaC c):=by
      unfold yaC at hh|-;rw[e]at hh|-;have hh:(1:Int)<=s.stk.length:=hh;show((s.stk.length - 1:Nat):Int)=s.stk.length+(0 - 1);omega
     cases ht:ycE s.top with
     |true=>
      rw[ht]at h;simp only[znm]at h;rw[<-h];refine .inr ⟨zmf,?_,znc _⟩;show((s.stk.dropLast.length:Nat):Int)=_;rw[zmi];exact C
     |false=>
      rw[ht]at h;simp only[znl]at h;rw[<-h];refine .inr ⟨zme _ (List.mem_singleton.2 rfl),?_,znc _⟩;show((s.stk.dropLast.length:Nat):Int)=_;rw[zmi];exact C
   |false=>
    rw[hf]at h;simp only[znl,Option.some.injEq]at h;have A:(c.op==11)=false:=by
     rw[zna];intro e;rw[e]at hf;cases hf
    rw[A];simp only[znl];have H:=ycy c.op;have E:yaC c=((if c.op=29 then c.a.toNat else(ofL c.op).1.i.toNat:Nat):Int):=by
     unfold yaC;by_cases e:c.op=29
     .rw[if_pos e,show(c.op==29)=true by simpa using e,znm]
      omega
     .rw[if_neg e,show(c.op==29)=false by simpa using e,znl]
      omega
    have C:(if c.op=29 then c.a.toNat else(ofL c.op).1.i.toNat)<=s.nxt.stk.length:=by
     show _<=s.stk.length;omega
    have D:=yoj s.nxt p c.op c.a.toNat h0 h1 hb he hf C;rw[h]at D;rcases D with D|D
    .exact .inl D
    .obtain⟨L,K,N⟩:=ym4 D
     refine .inr ⟨List.mem_singleton.2 L,?_,by omega⟩;have C:(if c.op=29 then c.a.toNat else(ofL c.op).1.i.toNat)<=s.stk.length:=C;rw[K,E];omega
structure Fr (s s':MS):Prop where
 steps:s'.steps=s.steps
 events:s'.events=s.events
 taken:s'.taken=s.taken
 input:s'.input=s.input
 now:s'.now=s.now
 asked:s'.asked=s.asked
 begun:s'.begun=s.begun
 places:s'.places.length=s.places.length
theorem Fr.trans {a b c:MS}(h:Fr a b)(k:Fr b c):Fr a c:=⟨k.steps.trans h.steps,k.events.trans h.events,k.taken.trans h.taken,k.input.trans h.input,k.now.trans h.now,k.asked.trans h.asked,k.begun.trans h.begun,k.places.trans h.places⟩
theorem yho (s:MS)(why:ByteArray):Fr s (s.fall why):=⟨rfl,rfl,rfl,rfl,rfl,rfl,rfl,rfl⟩
theorem yhn (s:MS)(v:Val):Fr s (s.push v):=⟨rfl,rfl,rfl,rfl,rfl,rfl,rfl,rfl⟩
theorem ymB (s:MS)(v:Val):Fr s (s.put v):=by
 unfold MS.put;split
 .exact yho _ _
 .exact yhn _ _
theorem yl2 (s:MS)(op:Int)(a b:Val):Fr s (s.arith op a b):=by
 unfold MS.arith;split
 .exact yho _ _
 .exact yhn _ _
theorem yol (s:MS)(op:Int)(a b:Val):Fr s (s.two op a b):=by
 unfold MS.two
 repeat' split
 all_goals first|exact yhn _ _|exact yho _ _|exact ymB _ _|exact yl2 _ _ _ _
theorem ygd (s:MS)(op:Int)(k:Nat):Fr s (s.reckon op k):=by
 unfold MS.reckon
 repeat' split
 all_goals first|exact⟨rfl,rfl,rfl,rfl,rfl,rfl,rfl,rfl⟩|exact Fr.trans (b:=s.pop.pop) ⟨rfl,rfl,rfl,rfl,rfl,rfl,rfl,rfl⟩ (yol _ _ _ _)|exact Fr.trans (b:={s with stk:=s.stk.take (s.stk.length - k)}) ⟨rfl,rfl,rfl,rfl,rfl,rfl,rfl,rfl⟩ (ymB _ _)
theorem yim (s:MS)(op:Int)(name:ByteArray):Fr s (s.begin_ op name):=by
 unfold MS.begin_;dsimp only;split
 .split
  .exact⟨rfl,rfl,rfl,rfl,rfl,rfl,rfl,rfl⟩
  .rename_i i _
   cases(s.timers.list[i]?.getD ⟨0,false,yag,0⟩).over<;>exact⟨rfl,rfl,rfl,rfl,rfl,rfl,rfl,rfl⟩
 .repeat' split
  all_goals exact⟨rfl,rfl,rfl,rfl,rfl,rfl,rfl,rfl⟩
theorem ynq {s s':MS}{op:Int}{name:ByteArray}(h:s.wait op name=some s'):Fr s s':=by
 unfold MS.wait at h;split at h
 .cases hf:yap name s.letters with
  |none=>rw[hf]at h;cases h
  |some i=>rw[hf]at h;cases h;exact⟨rfl,rfl,rfl,rfl,rfl,rfl,rfl,rfl⟩
 .dsimp only at h
  split at h
  .cases h;exact⟨rfl,rfl,rfl,rfl,rfl,rfl,rfl,rfl⟩
  .split at h
   .cases h;exact⟨rfl,rfl,rfl,rfl,rfl,rfl,rfl,rfl⟩
   .rename_i i _ _ _
    cases hov:((if op=21 then s.acts.list else s.timers.list)[i]?.getD ⟨0,false,yag,0⟩).over with
    |false=>rw[hov]at h;cases h
    |true=>
     rw[hov]at h;simp only[Bool.not_true,znl,Option.some.injEq]at h;subst h
     repeat' split
     all_goals exact⟨rfl,rfl,rfl,rfl,rfl,rfl,rfl,rfl⟩
theorem yon (s:MS)(op:Int)(name:ByteArray):Fr s (s.end_ op name):=by
 unfold MS.end_
 repeat' split
 all_goals exact⟨rfl,rfl,rfl,rfl,rfl,rfl,rfl,rfl⟩
theorem yom {s a b:MS}{c:Prop}[Decidable c](ha:Fr s a)(hb:Fr s b):Fr s (if c then a else b):=by
 split
 .exact ha
 .exact hb
theorem ypp (s:MS)(p:Img)(op:Int)(k:Nat):Fr s (s.go p op k):=by
 unfold MS.go;dsimp only
 repeat' (first|exact yim _ _ _|exact ygd _ _ _|refine yom ?_ ?_)
 all_goals try(cases yap (p.names[k]?.getD ⟨#[]⟩) s.letters)
 all_goals first|exact⟨rfl,rfl,rfl,rfl,rfl,rfl,rfl,rfl⟩|exact⟨rfl,rfl,rfl,rfl,rfl,rfl,rfl,List.length_set⟩|exact yim _ _ _|exact ygd _ _ _
theorem ybC {p:Img}{s s':MS}(h:yak p s=some s'):Fr s s':=by
 unfold yak at h;dsimp only at h;cases hb:(ofL (p.code[s.at_]?.getD ⟨0,0⟩).op).1.blocks with
 |true=>rw[hb]at h;exact ynq h
 |false=>
  rw[hb]at h;simp only[znl]at h;cases he:(ofL (p.code[s.at_]?.getD ⟨0,0⟩).op).1.ends with
  |true=>rw[he]at h;cases h;exact yon _ _ _
  |false=>
   rw[he]at h;simp only[znl]at h;cases hf:(ofL (p.code[s.at_]?.getD ⟨0,0⟩).op).1.flow with
   |true=>
    rw[hf]at h;cases h;cases((p.code[s.at_]?.getD ⟨0,0⟩).op==11)
    .cases ycE s.top<;>exact⟨rfl,rfl,rfl,rfl,rfl,rfl,rfl,rfl⟩
    .exact⟨rfl,rfl,rfl,rfl,rfl,rfl,rfl,rfl⟩
   |false=>
    rw[hf]at h;cases h;exact Fr.trans (b:=s.nxt) ⟨rfl,rfl,rfl,rfl,rfl,rfl,rfl,rfl⟩ (ypp _ _ _ _)
end Go.Va
namespace Go.Va
open Go.Own Go.RowKit
open Go.Proofs.YtpagmlndgblhhaaGreatDoor
def At (fa:Fa)(s:MS):Prop:=fa.heights[s.at_]? =some (s.stk.length:Int)
def yf8 (p:Img)(fa:Fa)(s:MS):Int:=(spF p.code (p.code.length+1) s.at_:Nat)+fa.span*(pot s:Nat)
theorem yhG {p:Img}{fa:Fa}(K:Known p fa){s:MS}(R:At fa s):∃c,p.code[s.at_]? =some c/\0<=c.op/\c.op<33/\0<=c.a/\yaC c<=s.stk.length/\(ofL c.op).2=true/\c.a<mostL p (ofL c.op).1.operand:=by
 have F:(0:Int)<=s.stk.length:=Int.natCast_nonneg _;obtain⟨c,B,A,E,G,_,_,_,_,D,_⟩:=K.step R F (run:=fa.span - (spF p.code (p.code.length+1) s.at_:Nat)) (by omega);have hm:=(yb3 K.img).2.2.2.2.2.2.2.2 c (zmg B);have C:0<=c.op/\c.op<33:=by
  by_cases h:0<=c.op/\c.op<33
  .exact h
  .exfalso
   have e:∀j:Int,0<=j->j<=32->(c.op==j)=false:=fun j B A=>by rw[zna];omega
   have:(ofL c.op).2=false:=by
    simp only[ofL,ycF,e 0 (by decide) (by decide),e 1 (by decide) (by decide),e 2 (by decide) (by decide),e 3 (by decide) (by decide),e 4 (by decide) (by decide),e 5 (by decide) (by decide),e 6 (by decide) (by decide),e 7 (by decide) (by decide),e 8 (by decide) (by decide),e 9 (by decide) (by decide),e 10 (by decide) (by decide),e 11 (by decide) (by decide),e 12 (by decide) (by decide),e 13 (by decide) (by decide),e 14 (by decide) (by decide),e 15 (by decide) (by decide),e 16 (by decide) (by decide),e 17 (by decide) (by decide),e 18 (by decide) (by decide),e 19 (by decide) (by decide),e 20 (by decide) (by decide),e 21 (by decide) (by decide),e 22 (by decide) (by decide),e 23 (by decide) (by decide),e 24 (by decide) (by decide),e 25 (by decide) (by decide),e 26 (by decide) (by decide),e 27 (by decide) (by decide),e 28 (by decide) (by decide),e 29 (by decide) (by decide),e 30 (by decide) (by decide),e 31 (by decide) (by decide),e 32 (by decide) (by decide),znl]
   rw[A]at this;cases this
 exact⟨c,B,C.1,C.2,E,D,A,hm.2.2⟩
theorem ydI {p:Img}{fa:Fa}(K:Known p fa){s:MS}(R:At fa s):1<=(spF p.code (p.code.length+1) s.at_:Nat)/\((spF p.code (p.code.length+1) s.at_:Nat):Int)<=fa.span:=
 ⟨yjR (K.dn _ _ R (Int.natCast_nonneg _)),K.span _ _ R (Int.natCast_nonneg _)⟩
theorem yd4 {p:Img}{fa:Fa}(K:Known p fa){s s':MS}(R:At fa s)(h:yak p s=some s'):s'.over=true\/(At fa s'/\yf8 p fa s'+1<=yf8 p fa s):=by
 obtain⟨c,F,M,L,I,H,_,_⟩:=yhG K R;rcases yh0 F M L I H h with E|⟨E,J,C⟩
 .exact .inl E
 .have P:=ydI K R
  obtain⟨S,B,_,_,_,_,_,_,_,_,_,G⟩:=K.step R (Int.natCast_nonneg _) (run:=fa.span - (spF p.code (p.code.length+1) s.at_:Nat)) (by omega);rw[F]at B;cases B;obtain⟨_,Q,O,N,_,_,D⟩:=G _ E;refine .inr ⟨by unfold At;rw[N,O,J],?_⟩;unfold yf8;have A:0<=fa.span:=by omega
  cases hr:restsL c with
  |true=>
   rw[hr]at D C;simp only[znm]at D C;have hm:fa.span*((pot s':Nat):Int)+fa.span<=fa.span*((pot s:Nat):Int):=by
    rw[show fa.span*((pot s':Nat):Int)+fa.span=fa.span*(((pot s':Nat):Int)+1) by rw[Int.mul_add,Int.mul_one]];exact Int.mul_le_mul_of_nonneg_left (by omega) A
   omega
  |false=>
   rw[hr]at D C;simp only[znl]at D C;have hm:fa.span*((pot s':Nat):Int)<=fa.span*((pot s:Nat):Int):=Int.mul_le_mul_of_nonneg_left (by omega) A;omega
theorem ydL {p:Img}{fa:Fa}(K:Known p fa){s:MS}(R:At fa s):1<=yf8 p fa s:=by
 have h:=ydI K R;have:0<=fa.span*((pot s:Nat):Int):=Int.mul_nonneg (by omega) (Int.natCast_nonneg _);unfold yf8;omega
theorem ymU {p:Img}{fa:Fa}(K:Known p fa):∀(f:Nat) (s:MS),(s.over=false->At fa s/\yf8 p fa s<=f)->
  ((ya3 p f s).over=true\/(At fa (ya3 p f s)/\yak p (ya3 p f s)=none))/\((s.over=true/\ya3 p f s=s)\/(s.over=false/\((ya3 p f s).steps:Int)<=s.steps+yf8 p fa s)):=by
 intro f
 induction f with
 |zero=>
  intro s h;have e:ya3 p 0 s=s:=rfl;rw[e];by_cases A:s.over=true
  .exact⟨.inl A,.inl ⟨A,rfl⟩⟩
  .have A:s.over=false:=by simpa using A
   obtain⟨D,G⟩:=h A;have:=ydL K D;omega
 |succ f ih=>
  intro s h;by_cases A:s.over=true
  .have e:ya3 p (f+1) s=s:=by rw[ya3,A];rfl
   rw[e];exact⟨.inl A,.inl ⟨A,rfl⟩⟩
  .have A:s.over=false:=by simpa using A
   obtain⟨D,G⟩:=h A;have H:=ydL K D;cases hs:yak p s with
   |none=>
    have e:ya3 p (f+1) s=s:=by rw[ya3,A,hs];rfl
    rw[e];exact⟨.inr ⟨D,hs⟩,.inr ⟨A,by omega⟩⟩
   |some s'=>
    have e:ya3 p (f+1) s=ya3 p f {s' with steps:=s'.steps+1}:=by rw[ya3,A,hs];rfl
    rw[e];have F:s'.steps=s.steps:=(ybC hs).steps;rcases yd4 K D hs with C|⟨C,I⟩
    .obtain⟨E,B⟩:=ih {s' with steps:=s'.steps+1} (fun e=>by rw[show({s' with steps:=s'.steps+1}:MS).over=s'.over from rfl,C]at e;cases e)
     rcases B with⟨_,B⟩|⟨B,_⟩
     .refine⟨E,.inr ⟨A,?_⟩⟩
      rw[B];show((s'.steps+1:Nat):Int)<=_;omega
     .rw[show({s' with steps:=s'.steps+1}:MS).over=s'.over from rfl,C]at B
      cases B
    .have hm:yf8 p fa {s' with steps:=s'.steps+1}=yf8 p fa s':=rfl
     obtain⟨E,B⟩:=ih {s' with steps:=s'.steps+1} (fun _=>⟨C,by rw[hm];omega⟩);refine⟨E,.inr ⟨A,?_⟩⟩;rcases B with⟨_,B⟩|⟨_,B⟩
     .rw[B]
      show((s'.steps+1:Nat):Int)<=_;have:=ydL K C;omega
     .rw[hm]at B
      have B:_<=((s'.steps+1:Nat):Int)+_:=B;omega
def fuel (p:Img)(s:MS):Nat:=(p.code.length+1)*(pot s+1)
theorem ymR {p:Img}{fa:Fa}{a:Int}(h:yaY p=(fa,a,0)):fa.span<=p.code.length+1:=by
 unfold yaY at h;have A:yn8.span<=(p.code.length:Int)+1:=by show(0:Int)<=_;omega
 cases h1:(imgL p !=0)with
 |true=>
  rw[h1]at h;simp only[znm,Prod.mk.injEq]at h;rw[<-h.1];exact A
 |false=>
  rw[h1]at h;simp only[znl]at h;cases h2:((walkL p.code).1.2 !=0)with
  |true=>
   rw[h2]at h;simp only[znm,Prod.mk.injEq]at h;rw[<-h.1];exact A
  |false=>
   rw[h2]at h;simp only[znl]at h;cases h3:ycH p.code 0 (walkL p.code).2.heights with
   |some k=>
    rw[h3]at h;simp only[Prod.mk.injEq]at h;rw[<-h.1];exact A
   |none=>
    rw[h3]at h;simp only[Prod.mk.injEq]at h;rw[<-h.1];have:=yh1 (code:=p.code) (B:=p.code.length+1) (walkL p.code).2.heights 0 0 (znq _) (fun j h _ _=>yfO _ _ _);show((ycK p.code 0 (walkL p.code).2.heights 0:Nat):Int)<=_;omega
theorem yf7 {p:Img}{fa:Fa}{s:MS}(hs:fa.span<=p.code.length+1):yf8 p fa s<=fuel p s:=by
 unfold yf8 fuel;have C:=yfO p.code (p.code.length+1) s.at_;have B:fa.span*((pot s:Nat):Int)<=(p.code.length+1)*((pot s:Nat):Int):=Int.mul_le_mul_of_nonneg_right hs (Int.natCast_nonneg _);have A:(((p.code.length+1)*(pot s+1):Nat):Int)=(p.code.length+1)*((pot s:Nat):Int)+(p.code.length+1):=by
  rw[Nat.mul_add_one,Int.natCast_add,Int.natCast_mul];rfl
 omega
end Go.Va
namespace Go.Va
open Go.Own Go.RowKit
def yfB (k:Int):Option (Bool×Bool×Bool×Bool×Bool):=
 if k=1 then some (true,true,true,true,true)else if k=2 then some (false,true,false,false,false)else if k=3 then some (true,true,false,false,false)else if k=4 then some (true,true,false,false,false)else
 if k=5 then some (false,true,false,false,false)else if k=6 then some (false,true,true,false,false)else if k=7 then some (true,true,true,false,true)else if k=8 then some (true,false,false,false,true)else
 if k=9 then some (true,false,true,false,false)else if k=10 then some (true,false,false,false,false)else if k=11 then some (true,true,false,false,false)else if k=12 then some (true,false,false,false,false)else
 if k=13 then some (true,false,false,false,false)else if k=14 then some (false,false,true,false,true)else if k=15 then some (false,false,false,false,false)else if k=16 then some (false,false,false,false,true)else
 if k=17 then some (false,false,true,false,false)else if k=18 then some (false,false,false,false,false)else if k=19 then some (false,false,true,false,false)else if k=20 then some (false,false,false,false,false)else
 if k=21 then some (false,true,false,false,true)else none
def yaI (k:Int):Bool:=decide (k=1\/k=8\/k=9\/k=10\/k=12\/k=14\/k=15\/k=19\/k=20)
def ynN (k id t a b:Int)(n m:Nat)(vk cl:Int):Int:=
 match yfB k with
 |none=>9
 |some (hA,hB,hN,hT,hV)=>
  if id<1\/1048576<id\/t<0\/4611686018427387903<t then 1 else
  if a<0\/b<0\/(hA=false/\a≠0)\/(hB=false/\b≠0)then 1 else
  if 64<n\/128<m then 2 else
  if(hN=false/\n≠0)\/(hT=false/\m≠0)then 8 else
  if hV=false/\vk≠0 then 8 else cl
end Go.Va
namespace Go.Va
open Go.Own Go.RowKit
open Go.Proofs.YtpagmlndgblhhaaGreatDoor
def yae (e:Ev):Int:=
 match yfB e.kind with
 |none=>9
 |some (hA,hB,hN,hT,hV)=>
  if e.id<1\/1048576<e.id\/e.time<0\/4611686018427387903<e.time then 1 else
  if e.a<0\/e.b<0\/(hA=false/\e.a≠0)\/(hB=false/\e.b≠0)then 1 else
  if 64<e.name.size\/128<e.text.size then 2 else
  if(hN=false/\e.name.size≠0)\/(hT=false/\e.text.size≠0)then 8 else
  if hV=false/\e.v.kind≠0 then 8 else checkL e.v
def hear (s:MS)(e:Ev):MS:=
 if e.kind=1 then{s with begun:=true,input:=yab e.v}else
 if e.kind=12 then{s with timers:=⟨ycA e.a 1 yag s.timers.list,s.timers.next⟩}else
 if e.kind=8 then{s with acts:=⟨ycA e.a 1 e.v s.acts.list,s.acts.next⟩}else
 if e.kind=9 then{s with acts:=⟨ycA e.a 0 (ybR e.name) s.acts.list,s.acts.next⟩}else
 if e.kind=10 then{s with acts:=⟨ycA e.a (-1) yag s.acts.list,s.acts.next⟩}else
 if e.kind=14 then{s with letters:=s.letters++[⟨e.name,yab e.v⟩]}else
 if e.kind=15 then{s with asked:=true}else{s with over:=true}
def ylz (p:Img)(s:MS):MS:=ya3 p (fuel p s) s
def yat (p:Img)(s:MS)(e:Ev):Int×MS:=
 if yae e≠0\/yaI e.kind=false then(9,s)else if s.over=true then(181,s)else if s.begun=(e.kind==1)then(7,s)else
 (0,ylz p (hear {s with now:=e.time,steps:=0,events:=s.events+1} e))
def ms0 (p:Img):MS:=⟨[],List.replicate p.places.toNat yag,0,yag,0,⟨[],0⟩,⟨[],0⟩,[],false,false,false,⟨#[]⟩,[],0,0,0⟩
theorem yef (id how:Int)(v:Val):∀l:List Th,yao (ycA id how v l)<=yao l+1
 |[]=>by simp[ycA,yao]
 |x::r=>by
  rw[ycA];split
  .cases hx:x.over with
   |true=>simp only[znm];omega
   |false=>simp only[znl,yao,znm,hx];omega
  .rw[yao,yao]
   have:=yef id how v r;omega
structure Good (p:Img)(fa:Fa)(s:MS):Prop where
 at_:s.over=false->At fa s
 wait:s.over=false->s.begun=true->yak p s=none
 pot:s.over=false->Go.Va.pot s<=s.events
 steps:(s.steps:Int)<=fa.span*((s.events:Int)+1)
theorem ypl {p:Img}{fa:Fa}(K:Known p fa):Good p fa (ms0 p):=by
 have A:At fa (ms0 p):=K.zero;have B:=(ydI K A);refine⟨fun _=>A,(fun _ h=>by cases h),fun _=>znc _,?_⟩;show(0:Int)<=fa.span*((0:Int)+1);omega
theorem ykx {fa:Fa}{s:MS}(e:Ev)(h:At fa s):At fa (hear s e):=by
 unfold hear
 repeat' split
 all_goals exact h
theorem ydO (s:MS)(e:Ev):pot (hear s e)<=pot s+1/\(hear s e).events=s.events/\(hear s e).steps=s.steps:=by
 unfold hear;have B:=fun how v=>yef e.a how v s.timers.list;have A:=fun how v=>yef e.a how v s.acts.list;split
 .exact⟨Nat.le_succ _,rfl,rfl⟩
 .split
  .refine⟨?_,rfl,rfl⟩
   have:=B 1 yag;show s.letters.length+(yao (ycA e.a 1 yag s.timers.list)+yao s.acts.list)<=s.letters.length+(yao s.timers.list+yao s.acts.list)+1;omega
  .split
   .refine⟨?_,rfl,rfl⟩
    have:=A 1 e.v;show s.letters.length+(yao s.timers.list+yao (ycA e.a 1 e.v s.acts.list))<=s.letters.length+(yao s.timers.list+yao s.acts.list)+1;omega
   .split
    .refine⟨?_,rfl,rfl⟩
     have:=A 0 (ybR e.name);show s.letters.length+(yao s.timers.list+yao (ycA e.a 0 (ybR e.name) s.acts.list))<=s.letters.length+(yao s.timers.list+yao s.acts.list)+1;omega
    .split
     .refine⟨?_,rfl,rfl⟩
      have:=A (-1) yag;show s.letters.length+(yao s.timers.list+yao (ycA e.a (-1) yag s.acts.list))<=s.letters.length+(yao s.timers.list+yao s.acts.list)+1;omega
     .split
      .refine⟨?_,rfl,rfl⟩
       show(s.letters++[_]).length+(yao s.timers.list+yao s.acts.list)<=s.letters.length+(yao s.timers.list+yao s.acts.list)+1;rw[znk,zmh];omega
      .split
       .exact⟨Nat.le_succ _,rfl,rfl⟩
       .exact⟨Nat.le_succ _,rfl,rfl⟩
theorem yfo (p:Img):∀(f:Nat) (s:MS),(ya3 p f s).events=s.events/\(ya3 p f s).begun=s.begun/\(ya3 p f s).now=s.now
 |0,_=>⟨rfl,rfl,rfl⟩
 |f+1,s=>by
  rw[ya3];cases s.over with
  |true=>exact⟨rfl,rfl,rfl⟩
  |false=>
   simp only[znl];cases hs:yak p s with
   |none=>exact⟨rfl,rfl,rfl⟩
   |some s'=>
    have h:=ybC hs;obtain⟨C,B,A⟩:=yfo p f {s' with steps:=s'.steps+1};exact⟨C.trans h.events,B.trans h.begun,A.trans h.now⟩
theorem yjU {p:Img}{fa:Fa}(K:Known p fa):∀(f:Nat) (s:MS),(s.over=false->At fa s)->(ya3 p f s).over=false->pot (ya3 p f s)<=pot s
 |0,_,_,_=>znc _
 |f+1,s,hA,h=>by
  by_cases ho:s.over=true
  .have e:ya3 p (f+1) s=s:=by rw[ya3,ho];rfl
   rw[e];exact znc _
  .have ho:s.over=false:=by simpa using ho
   cases hs:yak p s with
   |none=>
    have e:ya3 p (f+1) s=s:=by rw[ya3,ho,hs];rfl
    rw[e];exact znc _
   |some s'=>
    have e:ya3 p (f+1) s=ya3 p f {s' with steps:=s'.steps+1}:=by rw[ya3,ho,hs];rfl
    rw[e]at h|-;obtain⟨c,G,J,I,H,F,_,_⟩:=yhG K (hA ho);rcases yh0 G J I H F hs with E|⟨E,M,L⟩
    .have A:({s' with steps:=s'.steps+1}:MS).over=true:=E
     cases f with
     |zero=>rw[show ya3 p 0 {s' with steps:=s'.steps+1}={s' with steps:=s'.steps+1}from rfl,A]at h;cases h
     |succ f=>
      have D:ya3 p (f+1) {s' with steps:=s'.steps+1}={s' with steps:=s'.steps+1}:=by rw[ya3,A];rfl
      rw[D,A]at h;cases h
    .have B:At fa s':=by
      rcases yd4 K (hA ho) hs with C|⟨C,_⟩
      .have A:({s' with steps:=s'.steps+1}:MS).over=true:=C
       cases f with
       |zero=>rw[show ya3 p 0 {s' with steps:=s'.steps+1}={s' with steps:=s'.steps+1}from rfl,A]at h;cases h
       |succ f=>
        have D:ya3 p (f+1) {s' with steps:=s'.steps+1}={s' with steps:=s'.steps+1}:=by rw[ya3,A];rfl
        rw[D,A]at h;cases h
      .exact C
     have:=yjU K f {s' with steps:=s'.steps+1} (fun _=>B) h;have N:pot ({s' with steps:=s'.steps+1}:MS)=pot s':=rfl;omega
theorem yjx {p:Img}{fa:Fa}(K:Known p fa)(hsp:fa.span<=p.code.length+1){s:MS}(G:Good p fa s)(e:Ev):Good p fa (yat p s e).2:=by
 unfold yat;split
 .exact G
 .split
  .exact G
  .rename_i F
   have F:s.over=false:=by simpa using F
   split
   .exact G
   .obtain⟨s0,B⟩:∃s0:MS,s0={s with now:=e.time,steps:=0,events:=s.events+1}:=⟨_,rfl⟩
    have M:At fa s0:=by rw[B];exact G.at_ F
    have Q:pot s0<=s.events:=by rw[B];exact G.pot F
    have J:s0.events=s.events+1:=by rw[B]
    have E:s0.steps=0:=by rw[B]
    rw[<-B];show Good p fa (ylz p (hear s0 e));have D:=ykx e M;obtain⟨P,N,H⟩:=ydO s0 e;obtain⟨s1,R⟩:∃s1,hear s0 e=s1:=⟨_,rfl⟩;rw[R]at D P N H|-;unfold ylz;have L:=ymU K (fuel p s1) s1 (fun _=>⟨D,yf7 hsp⟩);have hk:=yfo p (fuel p s1) s1;have S:=yjU K (fuel p s1) s1 (fun _=>D);have O:=ydI K D;have I:(ya3 p (fuel p s1) s1).events=s.events+1:=by rw[hk.1,N,J]
    refine⟨fun h=> ?_,fun h _=> ?_,fun h=> ?_,?_⟩
    .rcases L.1 with C|C
     .rw[C]at h;cases h
     .exact C.1
    .rcases L.1 with C|C
     .rw[C]at h;cases h
     .exact C.2
    .have:=S h
     omega
    .rw[I]
     have A:(0:Int)<=fa.span:=by omega
     rcases L.2 with⟨_,C⟩|⟨_,C⟩
     .rw[C,H,E]
      show(0:Int)<=fa.span*(((s.events+1:Nat):Int)+1);exact Int.mul_nonneg A (by omega)
     .rw[H,E]at C
      have hm:yf8 p fa s1<=fa.span*(((s.events+1:Nat):Int)+1):=by
       unfold yf8;have T:fa.span*((pot s1:Nat):Int)<=fa.span*((s.events+1:Nat):Int):=Int.mul_le_mul_of_nonneg_left (by omega) A;rw[Int.mul_add,Int.mul_one];omega
      omega
end Go.Va
