/- Parts of the proof: what the functions and the plain laws give that later parts lean on. Conditions: none beyond those that each theorem names. -/
import Derived.HandedShaped
import Derived.LaidMore
import Derived.Lay
import Derived.MakeChecks
import Derived.Stop.LaidErr
import Derived.Shelf.Vars
import Derived.ChangeOld
import Derived.Test.YtpagmlndgblhhaaGreatDoorT28
set_option maxRecDepth 100000
set_option maxHeartbeats 8000000
namespace Go.Va
open Go.Own Go.RowKit
open Go.Proofs.YtpagmlndgblhhaaGreatDoor
set_option linter.unusedVariables false
theorem ypS:∀(l:List Cm) (n:Nt) (m:Int),okL l n->n.t<=m->n.a<=m->∀c∈l,c.kind=1\/c.kind=2\/c.kind=3->c.a<=m+l.length
 |[],_,_,_,_,_,c,hc,_=>by cases hc
 |d::l,n,m,h,ht,ha,c,hc,hk=>by
  obtain⟨h1,h2⟩:=h;have A:(nt1 n d).t<=m+1/\(nt1 n d).a<=m+1:=by
   unfold nt1;split
   .exact⟨by dsimp only;omega,by dsimp only;omega⟩
   .split
    .exact⟨by dsimp only;omega,by dsimp only;omega⟩
    .split
     .exact⟨by dsimp only;omega,by dsimp only;omega⟩
     .exact⟨by omega,by omega⟩
  rw[List.length_cons];rcases List.mem_cons.1 hc with rfl|hc
  .unfold ok1 at h1
   split at h1
   .omega
   .split at h1
    .omega
    .rw[if_pos (by omega)]at h1
     omega
  .have:=ypS l _ (m+1) h2 A.1 A.2 c hc hk
   omega
theorem ykh {p:Img}:∀(l:List Ev) (s:MS),Nm s->Nm (yc3 p s l)
 |[],_,N=>N
 |e::l,s,N=>ykh l _ (N.apply e)
section
variable{p:Img} {fa:Fa} {b:BK} {n t last:Nat}
theorem Wr.made_a (W:Wr p fa b n t last)(hn:n<=30){e:Ev}(he:e∈b.list)(hk:e.kind=11\/e.kind=13\/e.kind=7):e.a<=700000:=by
 have hm:ydb e∈(ydw b.list).map ydb:=List.mem_map_of_mem (List.mem_filter.2 ⟨he,by show yaX e.kind=true;rcases hk with h|h|h<;>rw[h]<;>decide⟩);rw[W.bk.hi.found]at hm;obtain⟨c,D,B⟩:=List.mem_map.1 hm;have D:c∈(rB p b).m.made:=List.mem_of_mem_take (List.mem_filter.1 D).1;have A:(evOfC c).kind=e.kind:=(congrArg Ev.kind B:_=(ydb e).kind);have G:(evOfC c).a=e.a:=(congrArg Ev.a B:_=(ydb e).a);have N:Nm (rB p b).m:=by rw[W.bk.hi.mach];exact ykh _ _ (nm0 p)
 have H:(rB p b).m.made.length<=600000:=by have:=W.bk.st.bd;have:=W.bk.ev;omega
 have C:=ypS _ _ 0 N.ok (Int.le_refl _) (Int.le_refl _) c D;have:(c.kind=1\/c.kind=2\/c.kind=3)/\(evOfC c).a=c.a:=by
  unfold evOfC at A|-;split at A
  .rename_i g;exact⟨.inl g,by rw[if_pos g]⟩
  .split at A
   .rename_i E g;exact⟨.inr (.inl g),by rw[if_neg E,if_pos g]⟩
   .split at A
    .rename_i F E g;exact⟨.inr (.inr g),by rw[if_neg F,if_neg E,if_pos g]⟩
    .exfalso
     split at A
     .have A:(16:Int)=e.kind:=A;omega
     .split at A
      .have A:(17:Int)=e.kind:=A;omega
      .split at A
       .have A:(21:Int)=e.kind:=A;omega
       .have A:(0:Int)=e.kind:=A;omega
 have:=C this.1;omega
theorem Wr.tells (W:Wr p fa b n t last){k:Nat}{e x:Ev}(hk:b.list[k]? =some e)(hm:yaX e.kind=true)(hx:yae x=0)(hxm:yaX x.kind=true)(hid:x.id=e.id)(hne:ydb x≠ydb e):(yan p (rp0 p) (b.list.take k++[x])).err=150:=W.bk.hi.tells hk hm hx hxm hid hne
theorem yk8 {e:Ev}(h:yae e=0)(ht:e.time≠4611686018427387903):yae {e with time:=e.time+1}=0/\ydb {e with time:=e.time+1}≠ydb e:=by
 refine⟨?_,fun h=>by have:=congrArg Ev.time h;have:e.time+1=e.time:=this;omega⟩;have hk:=ya1 h;unfold yae at h|-;dsimp only;split at h
 .cases h
 .rw[if_neg (by omega)]
  split at h
  .cases h
  .exact h
theorem yox {e:Ev}(h:yae e=0)(ha:e.a<=700000)(hk:e.kind=11\/e.kind=13\/e.kind=7):yae {e with a:=1099511627776}=0/\ydb {e with a:=1099511627776}≠ydb e:=by
 refine⟨?_,fun h=>by have:=congrArg Ev.a h;have:(1099511627776:Int)=e.a:=this;omega⟩;obtain⟨K,I,k,a,L,J,H,v⟩:=e;dsimp only at hk ha|-;have A:∃E D C B,yfB k=some (true,E,D,C,B):=by rcases hk with rfl|rfl|rfl<;>exact⟨_,_,_,_,rfl⟩
 obtain⟨E,D,C,B,A⟩:=A;unfold yae at h|-;dsimp only at h|-;rw[A]at h|-;dsimp only at h|-;split at h
 .cases h
 .rename_i G
  rw[if_neg G];split at h
  .cases h
  .rename_i F
   rw[if_neg (fun g=>F (g.elim (fun g=>absurd g (by decide)) (fun g=>g.elim (fun g=>.inr (.inl g)) (fun g=>g.elim (fun g=>absurd g.1 (by decide)) (fun g=>.inr (.inr (.inr g)))))))];exact h
def ycq:Val:=ybR ⟨#[110,101,118,101,114,32,119,97,110,116,101,100]⟩
theorem yf5:checkL ycq=0:=by kernel_rfl
theorem ylP:ycq.wf:=by exact yjI yf5
theorem yml {e:Ev}(h:yae e=0)(hn:¬(e.kind=16/\cmpV e.v ycq=0)):yae ⟨e.id,e.time,16,0,0,⟨#[]⟩,⟨#[]⟩,ycq⟩=0/\ydb ⟨e.id,e.time,16,0,0,⟨#[]⟩,⟨#[]⟩,ycq⟩≠ydb e:=by
 have hk:=ya1 h;refine⟨?_,fun h=>hn ?_⟩
 .exact ybY (hA:=false) (hB:=false) (hN:=false) (hT:=false) (hV:=true) rfl ⟨hk.2.1,hk.2.2.1⟩ hk.1 ⟨Int.le_refl _,fun _=>rfl⟩ ⟨Int.le_refl _,fun _=>rfl⟩ ⟨by show(⟨#[]⟩:ByteArray).size<=64;decide,fun _=>rfl⟩ ⟨by show(⟨#[]⟩:ByteArray).size<=128;decide,fun _=>rfl⟩ ⟨yf5,fun h=>by cases h⟩
 .have B:(16:Int)=e.kind:=congrArg Ev.kind h
  have A:yab ycq=yab e.v:=congrArg Ev.v h;exact⟨B.symm,(ydR _ _).2 A.symm⟩
end
def atN (l:List Ev)(n:Nat):List Nat:=(List.range n).filter (fun k=>(l[k]?.map (fun e=>yaX e.kind)).getD false)
theorem ymm (l:List Ev)(n:Nat){e:Ev}(h:l[n]? =some e):atN l (n+1)=atN l n++(bif yaX e.kind then[n]else[]):=by
 unfold atN;rw[List.range_succ,List.filter_append]
 congr 1
 rw[List.filter_cons,h];show(if yaX e.kind=true then _ else _)=_;cases yaX e.kind<;>rfl
theorem ynD (l:List Ev)(n:Nat):(atN l n).length<=n:=by
 have:=List.length_filter_le (fun k=>(l[k]?.map (fun e=>yaX e.kind)).getD false) (List.range n);rw[List.length_range]at this;exact this
theorem ynE {l:List Ev}{n i k:Nat}(h:(atN l n)[i]? =some k):k<n/\∃e,l[k]? =some e/\yaX e.kind=true:=by
 obtain⟨B,A⟩:=List.mem_filter.1 (zmg h);refine⟨List.mem_range.1 B,?_⟩;cases he:l[k]? with
 |none=>rw[he]at A;cases A
 |some e=>rw[he]at A;exact⟨e,rfl,A⟩
end Go.Va
namespace Go.Proofs.YtpagmlndgblhhaaGreatDoor
open Go.RowKit Go.Own Go.Own.MapTy Go.Va Go.Sort
open Go.Own.Cells (sz enc)
set_option linter.unusedVariables false
set_option linter.unusedSimpArgs false
theorem ypr:ElemOf (Int×Int) Tryz.prog 62 78 16:=yb5 Tryz.underlying62 (z:=.agg #[.int .i64 0,.int .i64 0]) (n:=2) (by kernel_rfl) rfl rfl
theorem PlAt.of_row {w:World}{a:Option Addr}{n c:Nat}{pl:List (Int×Int)}(R:RowAt w 78 (.slice a n c) pl):PlAt w a pl:=fun j q hq=>by
 obtain⟨g,A,D,_,C,B⟩:=(RdF.of_row (F:=fun _=>True) R (fun _ _=>trivial)).at_ hq;exact⟨g,A,D,C,B 0 _ rfl,B 1 _ rfl⟩
def yoB (w4:World)(n:Nat)(gk:Nat)(v40 v9:Value)(wr:World):Prop:=
 ∃i:Nat,v40= .int .i64 i/\i<=n/\gk=n - i/\RowAt wr 78 v9 (List.replicate i ((300,0):Int×Int))/\(∀g,v9.ownBlock=some g->w4.heap.size<=g)/\Below w4 w4 wr
def yqj (w7:World)(l:List Ev)(n:Nat)(gk:Nat)(v64 v13:Value)(wr:World):Prop:=
 ∃i:Nat,v64= .int .i64 i/\i<=n/\gk=n - i/\RowAt wr 3 v13 (atN l i)/\(∀g,v13.ownBlock=some g->w7.heap.size<=g)/\Below w7 w7 wr
def yoC (w6:World)(p:Img)(al:Option Addr)(nl cl:Nat)(l:List Ev)(k:Nat)(wx:World):Prop:=
 ∃x:Ev,XRow (fun q=>¬(Value.slice al nl cl).ownBlock=some q) wx 40 (.slice al nl cl) (l.set k x)/\x.v.wf/\(yan (yaf p) (rp0 (yaf p)) (l.take k++[x])).err=150/\Below w6 w6 wx
def ypx (w6:World)(al:Option Addr)(nl cl:Nat)(l:List Ev)(wx:World):Prop:=XRow (fun q=>¬(Value.slice al nl cl).ownBlock=some q) wx 40 (.slice al nl cl) l/\Below w6 w6 wx
theorem XRow.setAll {F:Nat->Prop}{w:World}{g off n cap:Nat}{l:List Ev}(X:XRow (fun q=>F q/\¬(Value.slice (some ⟨g,off,none⟩) n cap).ownBlock=some q) w 40 (.slice (some ⟨g,off,none⟩) n cap) l){i:Nat}(hi:i<l.length)(c:EC)(x:Ev)(hc:EvF (fun q=>F q/\¬(Value.slice (some ⟨g,off,none⟩) n cap).ownBlock=some q) w c x):
  XRow (fun q=>F q/\¬(Value.slice (some ⟨g,off,none⟩) n cap).ownBlock=some q) (w.setCells g (off+i*11) (enc c)) 40 (.slice (some ⟨g,off,none⟩) n cap) (l.set i x):=by
 obtain⟨D,C,B⟩:=X.cells;have A:=C.set (i:=i) (by rw[B.1];exact hi) c;have K:Keeps (fun q=>q=g) w (w.setCells g (off+i*11) (enc c)):=Keeps.setCells (S:=fun q=>q=g) (Keeps.refl _ _) (.inl rfl) _ _;exact XRow.of A ((B.set i hc).keep K (fun q hq e=>hq.2 (by rw[show q=g from e];rfl)))
theorem ylv {l:List Ev}{k:Nat}(x:Ev)(h:k<l.length):(l.set k x).take (k+1)=l.take k++[x]:=by
 rw[List.take_add_one,List.getElem?_set_self h,List.take_set_of_le (znc _)];rfl
theorem XRow.setF {F:Nat->Prop}{w:World}{g off n cap:Nat}{l:List Ev}(X:XRow (fun q=>F q/\¬(Value.slice (some ⟨g,off,none⟩) n cap).ownBlock=some q) w 40 (.slice (some ⟨g,off,none⟩) n cap) l){i:Nat}{e:Ev}(he:l[i]? =some e)(m:Nat)(u:Int)(x:Ev)(hm:(m=1/\x={e with time:=u})\/(m=3/\x={e with a:=u})):
  XRow (fun q=>F q/\¬(Value.slice (some ⟨g,off,none⟩) n cap).ownBlock=some q) (w.setCell ⟨g,off+i*11+m,none⟩ (.int .i64 u)) 40 (.slice (some ⟨g,off,none⟩) n cap) (l.set i x):=by
 obtain⟨P,M,C⟩:=X.cells;obtain⟨k,hk⟩:=yac (l:=P) (k:=i) (by rw[C.1];exact(zge he).1);have B:EvF _ w k e:=C.2 i k e hk he;have L:(Value.slice (some ⟨g,off,none⟩) n cap).ownBlock=some g:=rfl;have K:Keeps (fun q=>q=g) w (w.setCell ⟨g,off+i*11+m,none⟩ (.int .i64 u)):=Keeps.setCell (S:=fun q=>q=g) (p:=⟨g,_,none⟩) (Keeps.refl _ _) (.inl rfl) _;rcases hm with⟨rfl,rfl⟩|⟨rfl,rfl⟩
 .have A:=M.setOne (i:=i) (j:=1) (u:=.int .i64 u) (y:=({k with time:=u}:EC)) hk (by decide) rfl
  refine XRow.of A ((C.set i (x:={e with time:=u}) (c:={k with time:=u}) ?_).keep K (fun q hq e=>hq.2 (e▸L)));obtain⟨J,O,I,N,H,G,E,D⟩:=B;exact⟨J,rfl,I,N,H,G,E,D⟩
 .have A:=M.setOne (i:=i) (j:=3) (u:=.int .i64 u) (y:=({k with a:=u}:EC)) hk (by decide) rfl
  refine XRow.of A ((C.set i (x:={e with a:=u}) (c:={k with a:=u}) ?_).keep K (fun q hq e=>hq.2 (e▸L)));obtain⟨J,O,I,N,H,G,E,D⟩:=B;exact⟨J,O,I,rfl,H,G,E,D⟩
theorem ymP {N:Nat}{w:World}(G:Gl Tryz.prog N w)(hN:N<=w.heap.size){F:Nat->Prop}{i:IC}{p:Img}(H:IAt F w i p)(hw:∀x∈p.consts,x.wf){r:Fa×Int×Int}(hck:yaY p=r){g off j c1 k:Nat}{l:List Ev}{x:Ev}
  (XC:XRow (fun q=>¬(Value.slice (some ⟨g,off,none⟩) j c1).ownBlock=some q) w 40 (.slice (some ⟨g,off,none⟩) j c1) (l.set k x))(hxw:x.v.wf)(hl:l.length=j)(hj:j<=700000)(hk:(k:Int)<j)(ho:(ya8 l).length<=20)(hew:∀e∈l,e.v.wf):
  ∃k1:Nat,wrap64 ((k:Int)+1)=(k1:Int)/\IntKind.i64.wrap ((k:Int)+1)=(k1:Int)/\(0:Int)<=(k1:Int)/\(k1:Int)<=(j:Int)/\(∀W:World,(Instr.slice 22 (.slice (some ⟨g,off,none⟩) j c1) none (some (.int .i64 k1)) none).run Tryz.prog W= .ok (.slice (some ⟨g,off,none⟩) k1 c1) W)/\
   Hid (∀X,Below w w X->Calls Tryz.prog 11 #[.agg #[.slice i.ca i.cn i.cc,.slice i.ka i.kn i.kc,.slice i.na i.nn i.nc,i.pl],.slice (some ⟨g,off,none⟩) k1 c1] X (ymH X p r.2.2 (l.take k++[x]))):=by
 have D:k<l.length:=by omega
 obtain⟨M,J,E⟩:=XC.cells;obtain⟨A,B⟩:=ygi ygh J (k:=k+1) (by rw[E.1,List.length_set];omega);have I:XRow (fun q=>q<w) w 40 (.slice (some ⟨g,off,none⟩) (k+1) c1) (l.take k++[x]):=by
  rw[<-ylv x D];exact XRow.of B ((E.take (k+1)).mono (fun q _ h=>h))
 have L:XRd (fun q=>q<w) w (.slice (some ⟨g,off,none⟩) (k+1) c1) (l.take k++[x]):=I.rd (fun q h _=>h) (fun q hq=>I.lt hq);have C:(ya8 (l.take k++[x])).length<=30:=by
  have P:(ya8 (l.take k)).length<=(ya8 l).length:=by
   have K:ya8 l=ya8 (l.take k)++ya8 (l.drop k):=by rw[<-yaQ,List.take_append_drop]
   rw[K,znk];omega
  have O:(ya8 [x]).length<=1:=List.length_filter_le _ _;rw[yaQ,znk];omega
 refine⟨k+1,by unfold wrap64;omega,by rw[zmk _ (by omega)];omega,by omega,by omega,A,zhd fun X BW=> ?_⟩;refine ycw _ X (G.below BW) (znf hN BW.size) i p (H.below BW) hw r hck (some ⟨g,off,none⟩) (k+1) c1 (l.take k++[x]) ((L.below BW).mono (fun q hq hl=>hl)) (fun e he=> ?_) C (by rw[znk,List.length_take,zmh];omega);rcases List.mem_append.1 he with h|h
 .exact hew e (List.mem_of_mem_take h)
 .rw[List.mem_singleton.1 h];exact hxw
theorem yiJ {N:Nat}(i:IC)(p:Img)(W:World)(G:Gl Tryz.prog N W)(H:IAt (fun j=>j<W) W i p)(hb64:Val.all.allL B64 p.consts)(ea:Option Addr)(en ec:Nat)(l:List Ev)(E:XRd (fun j=>j<W) W (.slice ea en ec) l)(he:∀e∈l,e.v.all B64)(x0 x1 x2:Int):
  Calls Tryz.prog 5 #[.agg #[.slice i.ca i.cn i.cc,.slice i.ka i.kn i.kc,.slice i.na i.nn i.nc,i.pl],.slice ea en ec,.agg #[x0,x1,x2]] W fun en w'=>en= .returned (.bool true)/\Below W W w':=by
 have Bq:en=l.length:=by obtain⟨a,c,h⟩:=E.slice;cases h;rfl
 have HG:=zhd G;have RU:=zhd (fun W' (K:Below W W W')=>ygb W' (G.below K));have SM:=zhd (fun W' (K:Below W W W')=>ygR _ W' i p (H.below K) _ ea en ec l (E.below K));have HH:=zh5 H E hb64 he Bq;clear G H E hb64 he Bq;obtain⟨w0,Af⟩:∃w0,w0=(W.alloc (.cells #[.slice i.ca i.cn i.cc,.slice i.ka i.kn i.kc,.slice i.na i.nn i.nc,i.pl] 28)).alloc (.cells #[x0,x1,x2] 77):=⟨_,rfl⟩;have B0:Below W W w0:=by rw[Af];exact(zal).alloc (by simp) _
 have X0:BoxI w0 W.heap.size i:=by rw[Af];exact yaG
 have Y0:w0.heap[W.heap.size+1]? =some (.cells #[x0,x1,x2] 77 (0,0)):=by rw[Af];exact yar
 have H0:=zh3 B0 X0 Y0;clear B0 X0 Y0;go_in;go_wp2_with fail;rw[<-Af];clear Af;refine(RU.o w0 H0.o.1).mono ?_;rintro e w1 ⟨rfl,Ap⟩;have H1:=zh3 (H0.o.1.trans (Ap.mono H0.o.1.size)) (H0.o.2.1.below Ap) ((Ap.block (W.heap.size+1) (zlt H0.o.2.2)).trans H0.o.2.2);obtain⟨q0,q1,q2,q3,ql⟩:=H1.o.2.1.all5;clear Ap;go_wp2_with fail;refine(SM.o w1 H1.o.1).mono ?_;rintro e w2 ⟨r,rfl,H2⟩;have b:=zh3 (H1.o.1.trans (H2.o.2.mono H1.o.1.size)) (H1.o.2.1.below H2.o.2) ((H2.o.2.block (W.heap.size+1) (zlt H1.o.2.2)).trans H1.o.2.2);clear q0 q1 q2 q3 ql RU SM;cases r with
 |false=>
  go_wp2;go_ret;exact⟨rfl,b.o.1⟩
 |true=>
  have SF:=H2.o.1 rfl;have Be:∀x∈p.consts,x.wf:=fun x hx=>ynT (Val.allL_iff.1 HH.o.2.2.1 x hx) (SF.consts x hx);have Ai:∀e∈l,e.v.wf:=fun e h=>ynT (HH.o.2.2.2.1 e h) (SF.evs e h);obtain⟨fa,at_,er,Br⟩:∃fa a e,yaY p=(fa,a,e):=⟨_,_,_,rfl⟩;have Au:l.length<=20:=SF.len;have PN:=zhd (yhb w2 ea en ec l (HH.o.2.1.below b.o.1) Ai (by omega));have s:=zh5 Be Ai Br Au (show en<=20 by have:=HH.o.2.2.2.2;omega);clear SF Be Ai Br Au H2;go_wp2_with fail;refine PN.o.mono ?_;rintro e w3 ⟨r,rfl,H3⟩;have O:=zh3 (b.o.1.trans (H3.o.2.mono b.o.1.size)) (b.o.2.1.below H3.o.2) ((H3.o.2.block (W.heap.size+1) (zlt b.o.2.2)).trans b.o.2.2);obtain⟨q0,q1,q2,q3,ql⟩:=O.o.2.1.all5;cases r with
  |false=>
   clear PN H3;go_wp2;go_ret;exact⟨rfl,O.o.1⟩
  |true=>
   have Cx:=zhd (H3.o.1 rfl).1;have NN:=zhd (yhf _ w3 i p (HH.o.1.below O.o.1) s.o.1 _ s.o.2.2.1);clear PN H3;go_wp2_with fail;refine NN.o.mono ?_;rintro e w4 (⟨Bj,rfl,H4⟩|⟨hz,b4,v4,rfl,H4⟩)
   .have Ci:(er==0)=false:=by rw[zna];exact Bj
    have n2:(er !=0)=true:=by unfold bne;rw[Ci];rfl
    have Z:=zhd (O.o.1.trans (H4.o.mono O.o.1.size));clear NN H4 Bj;go_wp2;go_ret;exact⟨rfl,Z.o⟩
   .subst hz
    have B4:=H4.o.2.2;have Z:=zh3 (O.o.1.trans (B4.mono O.o.1.size)) (O.o.2.1.below B4) ((B4.block (W.heap.size+1) (zlt O.o.2.2)).trans O.o.2.2);clear NN H4 B4 q0 q1 q2 q3 ql;go_wp2_with fail;go_loopg [40,9] en (fun gk v40 v9 wr=>yoB w4 en gk v40 v9 wr)
    case atStart=>exact⟨0,rfl,znq _,rfl,RowAt.nil _ _,(fun g h=>by cases h),znv _ _⟩
    case round=>
     obtain⟨j,rfl,hj,Ah,y,hO,t⟩:=hrel;obtain⟨pa,pc,Bg⟩:=y.slice;rw[List.length_replicate]at Bg;subst Bg;by_cases hjn:j<en
     .have Bo:(j:Int)<en:=by omega
      have Aa:=zhd (show wrap64 ((j:Int)+1)=(j:Int)+1 by have:=s.o.2.2.2.2;unfold wrap64;omega);have HM:=zhd (show en - (j+1)<gk by omega);have RA:=zhd (y.below ((znv wr.heap.size wr).alloc (znc _) (.cells #[.int .i64 300,.int .i64 0] 78)));have U:=zhd (show((List.replicate j ((300,0):Int×Int)).length+1)*16<=140737488355328/\(List.replicate j ((300,0):Int×Int)).length+1<=maxLen from by have:=s.o.2.2.2.2;rw[List.length_replicate];unfold maxLen;omega);have R:=zh3 hO t (fun g d=>y.lt (g:=g) d);have A6:(List.replicate j ((300,0):Int×Int)).length=j:=List.length_replicate ..;clear Ah y hO t hj;go_wp2_with (at_builtin;refine ybG (α:=Int×Int) ypr rfl (.tmp 42) (.tmp 44) rfl RA.o ((300,0):Int×Int) rfl rfl (znb _ _) U.o.1 U.o.2 ?_;intro a1 c1 P J T L;rw[A6]at J L|-;have Y:=zh3 J T L;clear J T L);go_roundg (en - (j+1))
      case measure=>exact HM.o
      case rel=>
       have Cm:=R.o.2.1.size;have K:=(zkb (S:=fun g=>(Value.slice pa j pc).ownBlock=some g) ((znv wr.heap.size wr).alloc (znc _) (.cells #[.int .i64 300,.int .i64 0] 78))).trans Y.o.2.1 (fun _ _ e=>e);refine⟨j+1,by first|(simp;done)|(simp;exact Aa.o),hjn,rfl,?_,fun g d=> ?_,R.o.2.1.trans (K.below Cm (fun q hq e=>by have:=R.o.1 q e;omega))⟩
       .rw[List.replicate_succ'];exact Y.o.1
       .rcases Y.o.2.2 g d with h|h
        .exact R.o.1 g h
        .have h:wr.heap.size+1<=g:=by simpa using h
         omega
     .obtain rfl:j=en:=by omega
      have Cs:¬(j:Int)<j:=by omega
      have M:=Z.o.1.trans (t.mono Z.o.1.size);have X4:=Z.o.2.1.below t;have Y4:=(t.block (W.heap.size+1) (zlt Z.o.2.2)).trans Z.o.2.2;have Ac:=zh3 M X4 Y4;have WA:=zhd (yhB _ wr (HG.o.below M) (znf HG.o.n M.size) i p (HH.o.1.below M) s.o.1 fa at_ s.o.2.2.1 ea j ec l ((HH.o.2.1.below M).mono (fun q h _=>znj h M.size)) s.o.2.1 s.o.2.2.2.1 Cx.o pa pc (List.replicate j ((300,0):Int×Int)) j (List.length_replicate ..) (by have:=s.o.2.2.2.2;omega) (PlAt.of_row y));clear Ah y hO t hj M X4 Y4;obtain⟨q0,q1,q2,q3,ql⟩:=Ac.o.2.1.all5;go_wp2_with fail;refine WA.o.mono ?_;rintro e P ⟨kb,rfl,H6⟩;obtain⟨Di,C,mb,tb,sb,As,Wb,Cn,Cp,Cr,Co,B6⟩:=H6.o;obtain⟨ab,cb,Bf⟩:=As.row.slice;obtain⟨nb,Ao⟩:∃n,C.list.length=n:=⟨_,rfl⟩;rw[Ao]at Bf;subst Bf;have Bi:nb<=700000:=by have h3:=Wb.bk.len (by have:=s.o.2.2.2.1;omega);have:=s.o.2.2.2.1;omega
      have Q:=zh3 (Ac.o.1.trans (B6.mono Ac.o.1.size)) (Ac.o.2.1.below B6) ((B6.block (W.heap.size+1) (zlt Ac.o.2.2)).trans Ac.o.2.2);obtain⟨ks,A3,A4⟩:=As.row.cells;have A0:ks.length=nb:=A4.1.trans Ao;have D:=zh7 Wb Ao Bi (show mb<=20 by have:=s.o.2.2.2.1;omega) A4 A3 A0;have RA:=zhd (A3.below ((znv P.heap.size P).alloc (znc _) (.cells #[] 40)));have RE:=zhd (RowAt.none_ (α:=EC) (znb P (.cells #[] 40)));have U:=zhd (show(([]:List EC).length+ks.length)*128<=140737488355328/\([]:List EC).length+ks.length<=maxLen from by rw[A0];unfold maxLen;simp;omega);have Aq:=zhd As;clear WA H6 Wb Cn Cp Cr Co B6 q0 q1 q2 q3 ql A3 A4 Ao Bi As;obtain⟨_,_,_,_,u4,_,ul,_⟩:=Aq.o.q;go_wp2_with (at_builtin;go_must (refine ymM (α:=EC) ygh rfl (.tmp 56) (.tmp 60) rfl rfl rfl RE.o RA.o U.o.1 U.o.2 ?_);intro a1 c1 w7 J T L;simp only[List.length_nil,Nat.zero_add,List.nil_append]at J L|-;rw[A0]at J L|-;have Ar:=zh3 J T L;clear J T L);have B9:Below P P (P.alloc (.cells #[] 40)):=zal
      have K67:=(zkb (S:=fun q=>(Value.slice (some ⟨P,0,none⟩) 0 0).ownBlock=some q) B9).trans Ar.o.2.1 (fun _ _ e=>e);have A8:Below P P w7:=K67.below (znc _) (fun q hq e=>by cases e;exact absurd hq (Nat.lt_irrefl _));have Az:∀g,(Value.slice a1 nb c1).ownBlock=some g->P.heap.size<=g:=fun g d=>by
       rcases Ar.o.2.2 g d with h|h
       .cases h;exact znc _
       .have h:P.heap.size+1<=g:=by simpa using h
        omega
      have P7:Ptw (fun q=>q<P) w7 ks C.list:=(D.o.2.2.2.2.1.mono (G:=fun q=>q<P) (fun q _ hl=>hl)).keep (S:=fun _=>False) (zkb A8) (fun _ _ f=>f);have X7:XRow (fun q=>q<P/\¬(Value.slice a1 nb c1).ownBlock=some q) w7 40 (.slice a1 nb c1) C.list:=XRow.of Ar.o.1 (P7.mono (fun q hq _=>⟨hq,fun e=>by have:=Az q e;omega⟩));have E7:XRd (fun q=>q<w7) w7 (.slice a1 nb c1) C.list:=X7.rd (fun q _ h=>h) (fun q hq=>X7.lt hq);have H7:=zh4 X7 E7 A8 Az;clear B9 K67 A8 Az P7 X7 E7 RA RE Ar u4 ul;go_wp2_with fail;go_loopg [64,13] nb (fun gk v64 v13 wr=>yqj w7 C.list nb gk v64 v13 wr)
      case atStart=>exact⟨0,rfl,znq _,rfl,RowAt.nil _ _,(fun g h=>by cases h),znv _ _⟩
      case round=>
       obtain⟨j,rfl,hj,Ah,y,hO,t⟩:=hrel;obtain⟨Cg,Cf,Bh⟩:=y.slice;subst Bh;obtain⟨na,Ag⟩:∃n,(atN C.list j).length=n:=⟨_,rfl⟩;have An:na<=j:=by rw[<-Ag];exact ynD _ _
       rw[Ag]at y hO|-;by_cases hjn:j<nb
       .obtain⟨e,he⟩:=yac (l:=C.list) (k:=j) (by rw[D.o.2.1];exact hjn)
        obtain⟨g,Ad,vk,vn,vs,la,ln,lc,rfl,_,d,dv,y0,y1,y2,y3,y4,y5,y6,y7,y8,y9,y10⟩:=yc5 (H7.o.2.1.below t) he;have Bo:(j:Int)<nb:=by omega
        have Aa:=zhd (show wrap64 ((j:Int)+1)=(j:Int)+1 by have:=D.o.2.2.1;unfold wrap64;omega);have HM:=zhd (show nb - (j+1)<gk by omega);have Bx:=zhd (ymm C.list j he);have R:=zh5 y hO t Ag An;clear Ah y hO t hj he dv Ag An;obtain⟨e0,e1,z,e3,e4,e5,e6,ex⟩:=e;dsimp only at y0 y1 y2 y3 y4 y5 y6;go_upto_region 21 with(fail);refine yaa ?_;intro w8 Ay;have B8:=zba Ay;have Bs:=zha Ay;clear y0 y1 y2 y3 y4 y5 y6 y7 y8 y9 y10 d Ay;obtain⟨Bb,Ba,A9,x3,x4,x5,x6,x7,x8,x9,x10,xl,xf⟩:=yaB Bs;obtain⟨r,hr⟩:∃r,yaX z=r:=⟨_,rfl⟩;have CM:=zhd (yc9 e0 e1 z e3 e4 e5 e6 vk vn vs la ln lc w8 r hr);have By:=zhd hr;have B3:=zhd B8;clear hr B8 Bs;go_wp2_with fail;refine CM.o.mono ?_;rintro e w9 ⟨rfl,Bv⟩;have Al:=zhd (B3.o.trans (Bv.mono B3.o.size));clear Bv CM Bb Ba A9 x3 x4 x5 x6 x7 x8 x9 x10 xl xf;cases r with
        |false=>
         have Ck:=Aa.o;go_wp2_with fail;go_roundg (nb - (j+1))
         case measure=>exact HM.o
         case rel=>exact⟨j+1,by first|(simp;done)|(simp;exact Aa.o),hjn,rfl,by rw[Bx.o,By.o,znl,List.append_nil];exact R.o.1.below Al.o,R.o.2.1,R.o.2.2.1.trans (Al.o.mono R.o.2.2.1.size)⟩
        |true=>
         have RA:=zhd ((R.o.1.below Al.o).below ((znv w9.heap.size w9).alloc (znc _) (.cells #[(j:Int)] 3)));have U:=zhd (show((atN C.list j).length+1)*8<=140737488355328/\(atN C.list j).length+1<=maxLen from by have h1:=R.o.2.2.2.1;have h2:=R.o.2.2.2.2;have h3:=D.o.2.2.1;rw[h1];unfold maxLen;omega);have A6:=R.o.2.2.2.1;have Ck:=Aa.o;go_wp2_with (at_builtin;refine ybG (α:=Nat) ykQ rfl (.tmp 71) (.tmp 73) rfl RA.o (j:Nat) rfl rfl (znb _ _) U.o.1 U.o.2 ?_;intro a2 c2 Am J T L;rw[A6]at J L|-;have Y:=zh3 J T L;clear J T L);go_roundg (nb - (j+1))
         case measure=>exact HM.o
         case rel=>
          have Cl:=znf R.o.2.2.1.size Al.o.size;have K:=(zkb (S:=fun g=>(Value.slice Cg na Cf).ownBlock=some g) ((znv w9.heap.size w9).alloc (znc _) (.cells #[(j:Int)] 3))).trans Y.o.2.1 (fun _ _ e=>e);refine⟨j+1,by first|(simp;done)|(simp;exact Aa.o),hjn,rfl,?_,fun g d=> ?_,(R.o.2.2.1.trans (Al.o.mono R.o.2.2.1.size)).trans (K.below Cl (fun q hq e=>by have:=R.o.2.1 q e;omega))⟩
          .rw[Bx.o,By.o,znm]
           exact Y.o.1
          .rcases Y.o.2.2 g d with h|h
           .exact R.o.2.1 g h
           .have h:w9.heap.size+1<=g:=by simpa using h
            omega
       .obtain rfl:j=nb:=by omega
        have Cs:¬(j:Int)<j:=by omega
        have HT:=zhd (Q.o.1.trans ((H7.o.2.2.1.trans (t.mono H7.o.2.2.1.size)).mono Q.o.1.size));have Y7:=((H7.o.2.2.1.trans (t.mono H7.o.2.2.1.size)).block (W.heap.size+1) (zlt Q.o.2.2)).trans Q.o.2.2;have z0:=zca Y7 0 rfl;have z1:=zca Y7 1 rfl;have zl:=zlt Y7;have HA:=zh5 y hO t Ag An;clear Ah y hO t hj Y7 An;by_cases hz:na=0
        .have n1:((na:Int)==0)=true:=by rw[beq_iff_eq];omega
         go_wp2;go_ret;exact⟨rfl,HT.o⟩
        .have n1:((na:Int)==0)=false:=by rw[zna];omega
         by_cases hx:x0<0
         .have n2:decide (x0<0)=true:=zno hx
          go_wp2;go_ret;exact⟨rfl,HT.o⟩
         .have n2:decide (x0<0)=false:=znd hx
          have Dj:0<=x0:=by omega
          obtain⟨m,hm⟩:∃m:Nat,x0%(na:Int)=m:=⟨(x0%(na:Int)).toNat,(Int.toNat_of_nonneg (Int.emod_nonneg _ (by omega))).symm⟩;have Bl:m<na:=by have:=Int.emod_lt_of_pos x0 (show(0:Int)<na by omega);omega
          obtain⟨k,hk⟩:=yac (l:=atN C.list j) (k:=m) (by rw[HA.o.2.2.2.1];exact Bl);obtain⟨Cq,e,he,Bm⟩:=ynE hk;obtain⟨ag,ao,rfl,_,Cu,Bt⟩:=(RdF.of_row (F:=fun _=>True) HA.o.1 (fun _ _=>trivial)).at_ hk;have za:wr.cell? ⟨ag,ao+m,none⟩=some (.int .i64 (k:Int)):=by have h:=Bt 0 _ rfl;simpa[Cells.sz]using h
          have Bk:(m:Int)<na:=by omega
          clear Bt hk;obtain⟨g,Ad,vk,vn,vs,la,ln,lc,rfl,_,d,dv,y0,y1,y2,y3,y4,y5,y6,y7,y8,y9,y10⟩:=yc5 (H7.o.2.1.below HA.o.2.2.1) he;obtain⟨Cj,Bu,Cv⟩:=H7.o.1.cells;have ff:∀o,wr.frozen? ⟨g,o,none⟩=false:=(Bu.below HA.o.2.2.1).frozen;have Bn:(k:Int)<j:=by omega
          have Ab:=zhd (D.o.1.bk.evs e (zmg he));have M:=zhd (H7.o.2.2.1.trans (HA.o.2.2.1.mono H7.o.2.2.1.size));have A:=zh4 (H7.o.1.below HA.o.2.2.1) (H7.o.2.2.2 g rfl) dv he;have Ak:=zhd Bm;clear Bu Cv Cj dv he Bm Cq Bl n1 n2;obtain⟨e0,e1,z,e3,e4,e5,e6,ex⟩:=e;dsimp only at y0 y1 y2 y3 y4 y5 y6;go_upto_block 4 with(fail);clear za Cu Bk hm zl z0;go_cut [] (fun wx=>yoC P p (some ⟨g,Ad,none⟩) j c1 C.list k wx)
          case first=>
           by_cases h0:x1=0
           .subst h0
            by_cases ht:e1=4611686018427387903
            .have n3:(e1==4611686018427387903)=true:=by rw[beq_iff_eq];exact ht
             go_wp2;go_ret;exact⟨rfl,HT.o⟩
            .have n3:(e1==4611686018427387903)=false:=by rw[zna];exact ht
             have BT:=yk8 Ab.o.1 ht;have Dl:wrap64 (e1+1)=e1+1:=by have:=(ya1 Ab.o.1).1;dsimp only at this;unfold wrap64;omega
             have TL:=zhd (D.o.1.tells A.o.2.2.2 Ak.o BT.1 Ak.o rfl BT.2);have XS:=zhd (XRow.setF A.o.1 A.o.2.2.2 1 (e1+1) _ (.inl ⟨rfl,rfl⟩));clear ht BT;go_wp2_with fail;go_meet
             case rel=>exact⟨_,XS.o.mono (fun q h _=>h.2),Ab.o.2,TL.o,M.o.setCell A.o.2.1 _⟩
           .have m0:(x1==0)=false:=by rw[zna];exact h0
            by_cases h1:x1=1
            .subst h1
             by_cases hk3:z=11\/z=13\/z=7
             .have BA:=yox Ab.o.1 (D.o.1.made_a (znf D.o.2.2.2.1 (by decide)) (zmg A.o.2.2.2) hk3) hk3
              have TL:=zhd (D.o.1.tells A.o.2.2.2 Ak.o BA.1 Ak.o rfl BA.2);have XS:=zhd (XRow.setF A.o.1 A.o.2.2.2 3 1099511627776 _ (.inr ⟨rfl,rfl⟩));clear BA;rcases hk3 with rfl|rfl|rfl
              all_goals
               go_wp2_with fail;go_meet
               case rel=>exact⟨_,XS.o.mono (fun q h _=>h.2),Ab.o.2,TL.o,M.o.setCell A.o.2.1 _⟩
             .have n3:(z==11)=false:=by rw[zna];omega
              have n4:(z==13)=false:=by rw[zna];omega
              have n5:(z==7)=false:=by rw[zna];omega
              clear hk3;go_wp2;go_ret;exact⟨rfl,HT.o⟩
            .have m1:(x1==1)=false:=by rw[zna];exact h1
             by_cases h2:x1=2
             .subst h2
              have E6:XRd (fun q=>q<P) P (.slice ab j cb) C.list:=Aq.o.row.rd (fun q _ h=>h) (fun q hq=>Aq.o.row.lt hq);have C0:=zhd E6;have Ct:=A.o.2.1;clear E6;go_upto_region 38 with(fail);go_cut [] (fun wx=>ypx P (some ⟨g,Ad,none⟩) j c1 (C.list.set k ⟨e0,e1,16,0,0,⟨#[]⟩,⟨#[]⟩,ycq⟩) wx)
              case first=>
               go_region_law ((go_simp;go_at_call 32;refine(yd1 _ _).mono ?_;rintro e Am ⟨rfl,Ax⟩;have V:=zhd (show Below wr wr Am from by first|exact Ax|exact((znv wr.heap.size wr).drew).trans Ax);have yy:=zhd (fun o u (h:wr.cell? ⟨g,o,none⟩=some u)=>(V.o.cell (p:=⟨g,o,none⟩) d).trans h);have Bb:=yy.o _ _ y0;have Ba:=yy.o _ _ y1;have A9:=yy.o _ _ y2;have De:=yy.o _ _ y3;have Dd:=yy.o _ _ y4;have Dc:=yy.o _ _ y5;have Db:=yy.o _ _ y6;have Da:=yy.o _ _ y7;have C9:=yy.o _ _ y8;have C8:=yy.o _ _ y9;have C1:=yy.o _ _ y10;have Dq:=(fun o=>(V.o.frozen (p:=⟨g,o,none⟩) d).trans (ff o));have C7:=znj d V.o.size))
               all_goals
                go_wp2_with fail;go_meet
                case rel=>
                 have K:Keeps (fun q=>q=g) Am (Am.setCells g (Ad+k*11) (enc (⟨e0,e1,16,0,0,⟨#[]⟩,⟨#[]⟩,⟨2,0,⟨#[110,101,118,101,114,32,119,97,110,116,101,100]⟩,none,0,0⟩⟩:EC))):=Keeps.setCells (S:=fun q=>q=g) (Keeps.refl _ _) (.inl rfl) _ _;have Ca:=M.o.trans (V.o.mono M.o.size);exact⟨(XRow.setAll (A.o.1.below V.o) (zge A.o.2.2.2).1 ⟨e0,e1,16,0,0,⟨#[]⟩,⟨#[]⟩,⟨2,0,⟨#[110,101,118,101,114,32,119,97,110,116,101,100]⟩,none,0,0⟩⟩ ⟨e0,e1,16,0,0,⟨#[]⟩,⟨#[]⟩,ycq⟩ ⟨rfl,rfl,rfl,rfl,rfl,rfl,rfl,(yhy (fun _=>False) _ _).mono (fun q f _=>f.elim)⟩).mono (fun q h _=>h.2),Ca.trans (K.below Ca.size (fun q hq e=>by have:=A.o.2.1;have e:q=g:=e;omega))⟩
              case rest=>
               obtain⟨XN,BN⟩:=hcut;obtain⟨_,_,_,_,u4,_,ul,_⟩:=(Aq.o.ext BN).q;obtain⟨g2,C3,uk,un,us,ua,Cd,uc,rfl,C6,Dp,du,t0,t1,t2,t3,t4,t5,t6,t7,t8,t9,Ce⟩:=yc5 (C0.o.below BN) A.o.2.2.2;dsimp only at t0 t1 t2 t3 t4 t5 t6 du;obtain⟨g3,C2,zk,zn,zs,za,zl,zc,hz,_,A1,dz,z0,z1,z2,z3,z4,z5,z6,z7,z8,z9,z10⟩:=yc5 (XN.rd (G:=fun q=>True) (fun _ _ _=>trivial) (fun _ _=>trivial)) (List.getElem?_set_self (zge A.o.2.2.2).1);cases hz;have HN:=zh4 XN BN du dz;clear XN BN du dz z0 z1 z2 z3 z4 z5 z6 y0 y1 y2 y3 y4 y5 y6 y7 y8 y9 y10 ff d Ct;go_upto_region 40 with(fail);refine yaa ?_;intro Df Ae;have At:=zba Ae;have Av:=zha Ae;rw[<-At.cell (p:=⟨g,_,none⟩) A1]at z7 z8 z9 z10;have Do:=znj A1 At.size;have I:=zhd At;clear t0 t1 t2 t3 t4 t5 t6 t7 t8 t9 Ce Ae At u4 ul A1;obtain⟨v0,v1,v2,v3,Dg,v5,v6,v7,v8,v9,Dh,vl,_⟩:=yaB Av;clear Av;have fin:∀wx:World,Below wc wc wx->¬(z=16/\cmpV ex ycq=0)->yoC P p (some ⟨g,Ad,none⟩) j c1 C.list k wx:=fun wx BX hn=>by
                have BE:=yml Ab.o.1 hn;exact⟨_,HN.o.1.below BX,ylP,D.o.1.tells A.o.2.2.2 Ak.o BE.1 rfl rfl BE.2,HN.o.2.1.trans (BX.mono HN.o.2.1.size)⟩
               have Bz:=zhd fin;clear fin;by_cases h16:z=16
               .have Ch:(z==16)=true:=by rw[beq_iff_eq];exact h16
                obtain⟨bs,A2⟩:∃bs,(cmpV ex ycq==0)=bs:=⟨_,rfl⟩;have SA:=zhd (fun X (B:Below wc wc X)=>ydJ ex ycq ⟨uk,un,us,ua,Cd,uc⟩ ⟨zk,zn,zs,za,zl,zc⟩ _ _ X (HN.o.2.2.1.keep (S:=fun _=>False) (zkb B) (fun _ _ f=>f)) (HN.o.2.2.2.keep (S:=fun _=>False) (zkb B) (fun _ _ f=>f)) bs A2);have Cy:=zhd A2;clear A2 h16
                go_still_tail 11,(by kernel_rfl)
                go_wp2_with fail;refine(SA.o _ (by first|exact I.o|exact I.o.drew)).mono ?_;rintro e Cb ⟨rfl,Aj⟩;have B5:=zhd (show Below wc wc Cb from by first|exact I.o.trans (Aj.mono I.o.size)|exact I.o.drew.trans (Aj.mono I.o.size));clear SA Aj;cases bs with
                |true=>
                 have A5:=zhd (Q.o.1.trans ((HN.o.2.1.trans (B5.o.mono HN.o.2.1.size)).mono Q.o.1.size));go_wp2;go_ret;exact⟨rfl,A5.o⟩
                |false=>
                 go_wp2_with fail;go_meet
                 case rel=>exact Bz.o _ B5.o (fun h=>by have h2:=Cy.o;rw[h.2]at h2;cases h2)
               .have Ch:(z==16)=false:=by rw[zna];exact h16
                have Cz:=zhd h16;clear h16;go_region;go_wp2_with fail;go_meet
                case rel=>exact Bz.o _ (by first|exact I.o|exact I.o.drew) (fun h=>Cz.o h.1)
             .have m2:(x1==2)=false:=by rw[zna];exact h2
              go_wp2;go_ret;exact⟨rfl,HT.o⟩
          case rest=>
           obtain⟨x,XC,Bd,Bp,A7⟩:=hcut;have Bc:=Q.o.1.trans (A7.mono Q.o.1.size);obtain⟨q0,q1,q2,q3,ql⟩:=(Q.o.2.1.below A7).all5;obtain⟨k1,Dk,C4,Dn,Dm,C5,RY⟩:=ymP (HG.o.below Bc) (znf HG.o.n Bc.size) (HH.o.1.below Bc) s.o.1 s.o.2.2.1 XC Bd D.o.2.1 D.o.2.2.1 Bn (znf D.o.1.bk.o D.o.2.2.2.1) (fun e h=>(D.o.1.bk.evs e h).2);have B1:=zhd Bp;have B2:=zhd Bc;have hD:Below wc wc wc.drew:=(znv _ _).drew;clear XC Bp Bd Bc A7;go_upto_region 42 with(fail);go_region_law ((go_simp;go_at_call 11;refine(RY.o _ (by first|exact hD|exact znv _ _)).mono ?_;rintro e Cc (⟨h,_⟩|⟨_,h,rfl,B7⟩|⟨_,h,_⟩);exact absurd rfl h;rotate_left;exact absurd (h.symm.trans B1.o) (by decide)))
           all_goals
            rw[B1.o];have A5:=zhd (B2.o.trans ((show Below wc wc Cc from by first|exact B7.o|exact hD.trans B7.o).mono B2.o.size));go_wp2;go_ret;exact⟨rfl,A5.o⟩
end Go.Proofs.YtpagmlndgblhhaaGreatDoor
namespace Go.Proofs.YtpagmlndgblhhaaGreatDoor
open Go.ChangeShapes Go.WideShapes Go.Deep Go.RowKit Go.Own Go.Va
theorem yj7 {H:Type}{tok:TypeId×Value->H}{w:World}{base:Nat}{spare:Nat->Bool}{held:Bool}{r:Reach}{b0:Nat}{v:Value}{d:DataW H}{p:List MemPlace}(hv:Value.okWide Tryz.prog w r b0 77 v)(h:DataW.Trod tok Tryz.prog w base spare held 77 v d p):∃x y z:Int,v= .agg #[x,y,z]/\True:=by
 simp only[Value.okWide,Tryz.underlying77]at hv;obtain⟨G,rfl,B,_⟩:=hv;obtain⟨fuel,T⟩:=h;have U:Tryz.prog.cellsOf 77=3:=by kernel_rfl
 rw[U]at B;obtain⟨E,D,C,I⟩:∃E D C,G.toList=[E,D,C]:=by
  match hcs:G.toList,(show G.toList.length=3 by simpa using B)with
  |[E,D,C],_=>exact⟨E,D,C,rfl⟩
 obtain⟨P,m,_,_,_,F,A⟩:=DataW.trod_array Tryz.underlying77 T
 match P,F with
 |[y0,y1,y2],_=>
  have L:=A 0 (by omega);have K:=A 1 (by omega);have J:=A 2 (by omega);simp[Value.cells,I,yku]at L K J;obtain⟨S,O,_,_⟩:=DataW.trod_int Tryz.underlying3 L;obtain⟨R,N,_,_⟩:=DataW.trod_int Tryz.underlying3 K;obtain⟨Q,M,_,_⟩:=DataW.trod_int Tryz.underlying3 J;simp at O N M;subst O N M;refine⟨S,R,Q,?_,trivial⟩
  congr 1
  exact Array.ext' (by simpa using I)
end Go.Proofs.YtpagmlndgblhhaaGreatDoor
namespace Go
variable{H:Type} {enc:TypeId×Value->H}
theorem yhk {a:Assume}{C:Checked}{os:Os}{f:FuncId}{fn:Func}{s:ChangeSpec}{conds:List PathCond}{apart fresh handsOn again:Bool}{X:World->Array Value->Prop}
  (hX:∀(w w':World) (args:Array Value),w.heap=w'.heap->X w args->X w' args)
  (own:ownKnob C.prog.godebug=none)(started:os.Started)(noInit:C.prog.inits.idxOf? f=none)(hfn:C.prog.funcs[f]? =some fn)
  (witness:∃(w:World) (tape:Tape) (i:Input),w.os=os/\(w.forCall tape i).Shaped C.prog/\i.vars=[]/\Input.okWide C.prog (w.forCall tape i) .any w.heap.size f i/\
    ((s.pre enc C.prog fn conds apart (w.forCall tape i).memory i.args/\X (w.forCall tape i).memory i.args)/\sizedMet enc C.prog fn (OpenSpec.ofChange s) apart (w.forCall tape i).memory i.args)/\a.holds C.prog (lone (Frame.enter C.prog f i.args .normal) [] (w.forCall tape i)))
  (contract:∀(W:World) (base:Nat) (args:Array Value) (ds gs:List (DataW H)) (before:List MemPlace),
    (∀(j:Nat) t v,fn.params[j]? =some t->args[j]? =some v->Value.okWide C.prog W .any base t v)->
    DataW.Whole enc C.prog fn.params.toList s.vars apart W args.toList ds gs before->X W args->W.ShapedOpen C.prog->
    Calls C.prog f args W fun e W'=>∃v,e= .returned v/\s.post enc C.prog fn apart fresh handsOn again W args v W'):
  ReturnsInHanded a C os f .any (fun w args=>(s.pre enc C.prog fn conds apart w args/\X w args)/\sizedMet enc C.prog fn (OpenSpec.ofChange s) apart w args) (s.post enc C.prog fn apart fresh handsOn again):=by
 refine returnsInHanded_of_calls own started noInit witness ?_;intro w tape i _ F _ G B _;obtain⟨_,_,_,I,D,_,_,_,_,A⟩:=G;have e:I=fn:=Option.some.inj (D.symm.trans hfn);subst e;obtain⟨⟨⟨ds,gs,before,K,M⟩,J⟩,L⟩:=B;have E:=DataW.Whole.of_heap (w':=w.forCall tape i) (by rfl) K;refine(contract (w.forCall tape i) w.heap.size i.args ds gs before A E (hX _ _ _ (by rfl) J) F).mono fun e W' ⟨v,he,hp⟩=> ?_;subst he;exact ChangeSpec.post_blind hp
end Go
namespace Go.Proofs.YtpagmlndgblhhaaGreatDoor
open Go.RowKit Go.Own Go.Own.MapTy Go.Va Go.Sort
theorem ypR: "*errors.errorString" = "*" ++ "errors.errorString" :=by kernel_rfl
theorem yjY (u:TypeId)(h:Tryz.prog.typeName? 3 u=some "*errors.errorString"):u=295:=
 typeName_ptr_named (nm:= "errors.errorString") (by rw[←ypR];kernel_rfl) (by kernel_rfl) (by decide) u (by rw[←ypR];exact h)
theorem ypn:Tryz.prog.globalNamed "internal/strconv.uint64pow10" =some 5:=by kernel_rfl
theorem ypW:Tryz.prog.globalNamed "strconv.ErrSyntax" =some 3:=by kernel_rfl
theorem ypo:Tryz.prog.globalNamed "strconv.ErrRange" =some 4:=by kernel_rfl
theorem yok {W:World}(h:W.ShapedOpen Tryz.prog):∃m,W.cell? ⟨0,0,none⟩=some (.int .i64 m):=
 cell_of_shapedOpen_int (t:=3) (zero:=#[.int .i64 0]) h (znx (by kernel_rfl)) (by kernel_rfl) (by kernel_rfl) (by kernel_rfl) (by kernel_rfl) (by kernel_rfl)
theorem ymp {P:Program}{W:World}{s:String}{g:Nat}{cs:Array Value}(hg:P.globalNamed s=some g)(h:W.var? P s=some cs):g<W:=by
 unfold World.var? at h;rw[hg]at h;by_cases hl:g<W
 .exact hl
 .have:W.heap[g]? =none:=Array.getElem?_eq_none (by omega)
  simp[this]at h
theorem ypm {W:World}(h:laidMetH Tryz.prog Rows.replayRefusesRow.laid W)(hS:W.ShapedOpen Tryz.prog):Gl Tryz.prog 6 W:=by
 rw[MakeChecks.laidMetH_plain _ _ _ (by kernel_rfl)]at h;have D:=h.tail.tail;have C:=D.tail.tail;have F:=C.tail;have E:=Lib.tabIs_of_head (zs:=Lib.pow10Tab) (k:=.u64) (n:=20) ypn (t:=298) (by kernel_rfl) Tryz.underlying298 Tryz.underlying188 (by kernel_rfl) (by kernel_rfl) D;obtain⟨K,G,A,_⟩:=laid_sentinel (ti:=250) (tp:=295) (te:=297) (ts:=9) C ypo (by kernel_rfl) Tryz.underlying250 yjY Tryz.underlying295 Tryz.underlying297 rfl rfl Tryz.underlying9 (by kernel_rfl) (by kernel_rfl);obtain⟨L,H,B,_⟩:=laid_sentinel (ti:=250) (tp:=295) (te:=297) (ts:=9) F ypW (by kernel_rfl) Tryz.underlying250 yjY Tryz.underlying295 Tryz.underlying297 rfl rfl Tryz.underlying9 (by kernel_rfl) (by kernel_rfl);exact⟨yok hS,⟨_,_,B⟩,⟨_,_,A⟩,E,⟨3,4,5,ypW,ypo,ypn,by decide,by decide,by decide⟩,by decide,by have J:=ymp ypo A;have I:=ymp ypn E;omega⟩
end Go.Proofs.YtpagmlndgblhhaaGreatDoor
