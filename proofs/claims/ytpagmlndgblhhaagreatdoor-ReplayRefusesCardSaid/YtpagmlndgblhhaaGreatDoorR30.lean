/- Parts of the proof: what the functions and the plain laws give that later parts lean on. Conditions: none beyond those that each theorem names. -/
import Derived.Test.YtpagmlndgblhhaaGreatDoorR29
set_option maxRecDepth 100000
set_option maxHeartbeats 8000000
namespace Go.Proofs.YtpagmlndgblhhaaGreatDoor
open Go.ChangeShapes Go.WideShapes Go.Deep Go.RowKit Go.Own Go.Va
open Go.Own.Cells (sz enc)
section
variable{H:Type} {tok:TypeId×Value→H} {w:World} {base:Nat} {spare:Nat→Bool} {held:Bool}
theorem yhA {α β:Type}{R:α→β→Prop}:∀(ys:List α),(∀y∈ys,∃v,R y v)→∃l:List β,ys.length=l.length∧∀(i:Nat) (c:α) (x:β),ys[i]? =some c→l[i]? =some x→R c x
 |[],_=>⟨[],rfl,fun i c x h=>by simp at h⟩
 |y::r,h=>by
  obtain⟨v,hv⟩:=h y (zmf ..);obtain⟨l,h1,h2⟩:=yhA r (fun z hz=>h z (zme _ hz));refine⟨v::l,by simp[h1],fun i c x hc hx=> ?_⟩;cases i with
  |zero=>
   simp at hc hx;subst hc hx;exact hv
  |succ i=>exact h2 i c x (by simpa using hc) (by simpa using hx)
theorem ylh {cs:List Value}(h:cs.length=11):∃a b c d e f g h i j k,cs=[a,b,c,d,e,f,g,h,i,j,k]:=by
 match cs,h with
 |[a,b,c,d,e,f,g,h,i,j,k],_=>exact⟨a,b,c,d,e,f,g,h,i,j,k,rfl⟩
theorem yo5:Tryz.prog.cellsOf 40=11:=by kernel_rfl
theorem yip (fuel:Nat)(cs:List Value)(x:DataW H×List MemPlace)(hl:cs.length=11)(h:DataW.trod tok Tryz.prog w base spare held fuel 40 cs=some x):∃y:EC,cs=enc y∧∃e:Ev,EvF (fun j=>j<w.heap.size) w y e∧e.v.all B64∧ -9223372036854775808≤e.time∧e.time≤9223372036854775807:=by
 obtain⟨xs,n,rfl,rfl,_,hxl,hf⟩:=DataW.trod_struct Tryz.underlying40 h;obtain⟨c0,c1,c2,c3,c4,c5,c6,c7,c8,c9,c10,rfl⟩:=ylh hl
 match xs,hxl with
 |[x0,x1,x2,x3,x4,x5,x6,x7],_=>
  have h0:=hf 0 _ rfl;have h1:=hf 1 _ rfl;have h2:=hf 2 _ rfl;have h3:=hf 3 _ rfl;have h4:=hf 4 _ rfl;have h5:=hf 5 _ rfl;have h6:=hf 6 _ rfl;have h7:=hf 7 _ rfl;simp[yk6,ynf,ymh,ymg]at h0 h1 h2 h3 h4 h5 h6 h7;obtain⟨n0,e0,_,_⟩:=DataW.trod_int Tryz.underlying3 h0;obtain⟨n1,e1,_,b1⟩:=DataW.trod_int Tryz.underlying2 h1;obtain⟨n2,e2,_,_⟩:=DataW.trod_int Tryz.underlying3 h2;obtain⟨n3,e3,_,_⟩:=DataW.trod_int Tryz.underlying2 h3;obtain⟨n4,e4,_,_⟩:=DataW.trod_int Tryz.underlying2 h4;obtain⟨s5,e5,_,_⟩:=DataW.trod_string Tryz.underlying9 h5;obtain⟨s6,e6,_,_⟩:=DataW.trod_string Tryz.underlying9 h6;obtain⟨y,hy,v,hv,hb⟩:=yhp n _ _ rfl h7;simp at e0 e1 e2 e3 e4 e5 e6;subst e0 e1 e2 e3 e4 e5 e6;obtain⟨yk,yn,ys,ya,yl,yc⟩:=y;have hy:[c7,c8,c9,c10]=[.int .i64 yk,.int .i64 yn,.string ys,.slice ya yl yc]:=hy;simp only[List.cons.injEq,and_true]at hy;obtain⟨rfl,rfl,rfl,rfl⟩:=hy;exact⟨⟨n0,n1,n2,n3,n4,s5,s6,⟨yk,yn,ys,ya,yl,yc⟩⟩,rfl,⟨n0,n1,n2,n3,n4,s5,s6,v⟩,⟨rfl,rfl,rfl,rfl,rfl,rfl,rfl,hv⟩,hb,(yjC b1).1,(yjC b1).2⟩
theorem ygB {a:Option Addr}{len cap:Nat}{d:DataW H}{p:List MemPlace}(h:DataW.Trod tok Tryz.prog w base spare held 22 (.slice a len cap) d p):∃l:List Ev,XRd (fun j=>j<w.heap.size) w (.slice a len cap) l∧∀e∈l,e.v.all B64∧ -9223372036854775808≤e.time∧e.time≤9223372036854775807:=by
 obtain⟨fuel,hf⟩:=h;obtain⟨a',len',cap',he,ys,hr,hq⟩:=ydP (α:=EC) (Q:=fun y=>∃e:Ev,EvF (fun j=>j<w.heap.size) w y e∧e.v.all B64∧ -9223372036854775808≤e.time∧e.time≤9223372036854775807) Tryz.underlying22 yo5 (by decide) ⟨0,0,0,0,0,.empty,.empty,⟨0,0,.empty,none,0,0⟩⟩ (fun m _ cs x hcl ht=>yip m cs x hcl ht) hf;simp[Value.cells]at he;obtain⟨rfl,rfl,rfl⟩:=he;obtain⟨l,h1,h2⟩:=yhA (R:=fun(y:EC) (e:Ev)=>EvF (fun j=>j<w.heap.size) w y e∧e.v.all B64∧ -9223372036854775808≤e.time∧e.time≤9223372036854775807) ys hq;refine⟨l,⟨ys,hr,h1,fun i c x hc hx=>(h2 i c x hc hx).1⟩,fun e he=> ?_⟩;obtain⟨i,hi⟩:=List.mem_iff_getElem?.1 he;have hil:i<ys.length:=by rw[h1];exact(zge hi).1
 exact(h2 i _ e (List.getElem?_eq_getElem hil) hi).2
end
end Go.Proofs.YtpagmlndgblhhaaGreatDoor
namespace Go.Proofs.YtpagmlndgblhhaaGreatDoor
open Go.RowKit Go.Own Go.Own.MapTy Go.Va Go.Sort
open Go.Own.Cells (sz enc)
theorem ygK (n:Nat)(IH:∀(x:Val),x.parts≤n→∀(b:Nat) (d left:Int) (c:VC) (F:Nat→Prop) (w:World),LX w b left→CF F w c x→¬F b→0≤left→left≤400→0≤d→d≤100→
   Calls Tryz.prog 65 #[.agg #[.int .i64 c.kind,.int .i64 c.n,.string c.s,.slice c.la c.ln c.lc],.int .i64 d,.pointer (some ⟨b,0,none⟩)] w (ymK w b (fitV d x left)))
  (x:Val)(hx:x.parts≤n+1)(b:Nat)(d left:Int)(ck cn:Int)(cs:ByteArray)(la:Option Addr)(ln lc:Nat)(F:Nat→Prop)(w:World)(H:LX w b left)(C:CF F w ⟨ck,cn,cs,la,ln,lc⟩ x)(hF:¬F b)(h0:0≤left)(h4:left≤400)(hd0:0≤d)(hd:d≤100)(r:Bool×Int)(hr:fitV d x left=r):
  Calls Tryz.prog 65 #[.agg #[.int .i64 ck,.int .i64 cn,.string cs,.slice la ln lc],.int .i64 d,.pointer (some ⟨b,0,none⟩)] w (ymK w b r):=by
 rw[ymv]at hr;have HI:=zhd IH;have hcs:cs=x.txt:=C.s;rw[←hcs]at hr;have b0:=zlt H;have c0:=H.c;have f0:∀o,w.frozen? ⟨b,o,none⟩=false:=fun o=>zfr H o;obtain⟨hln,hlm,hel⟩:=C.l.elems;dsimp only at hln hlm hel;have hw1:IntKind.i64.wrap (left - 1)=left - 1:=zmk _ (by omega);have hwd:IntKind.i64.wrap (d+1)=d+1:=zmk _ (by omega);have HL:=zhd hln;have hlm':ln≤9223372036854775807:=by unfold maxLen at hlm;omega
 have HE:=zhd hel;have bne:¬w.heap.size=b:=by omega
 have bne2:¬b=w.heap.size:=by omega
 have HS:=zh2 (H.set (left - 1)) (Keeps.setCell (S:=fun j=>j=b) (p:=⟨b,0,none⟩) (Keeps.refl _ w) (.inl rfl) (.int .i64 (left - 1)));clear IH C hcs H hln hlm hel;go_enter Tryz.func65,Tryz.ntmps65;have key:(decide (left - 1<0)||(decide (12<d)||decide (1100<cs.size)))=true∨(decide (left - 1<0)=false∧decide (12<d)=false∧decide (1100<cs.size)=false):=by
  cases decide (left - 1<0)<;>cases decide (12<d)<;>cases decide (1100<cs.size)<;>simp
 rcases key with hc|⟨h1,h2,h3⟩
 ·rw[hc]at hr
  simp only[znm]at hr;subst hr;have KA:∀(X:World) (o:Obj),Keeps (fun j=>j=b) X (X.alloc o):=fun X o=>(Keeps.refl _ _).alloc _;cases h1:decide (left - 1<0)with
  |true=>
   clear hc;go_wp2_with fail;go_ret;exact⟨rfl,zhd ⟨HS.o.1.keep (S:=fun _=>False) ((Keeps.refl _ _).alloc _) (fun f=>f),HS.o.2.alloc _⟩⟩
  |false=>
   cases h2:decide (12<d)with
   |true=>
    clear hc;go_wp2_with fail;go_ret;exact⟨rfl,zhd ⟨HS.o.1.keep (S:=fun _=>False) ((Keeps.refl _ _).alloc _) (fun f=>f),HS.o.2.alloc _⟩⟩
   |false=>
    have h3:decide (1100<cs.size)=true:=by rw[h1,h2]at hc;simpa using hc
    have h4:(1100:Int)<cs.size:=by have:=znx h3;omega
    clear hc h3;go_wp2_with fail;go_ret;exact⟨rfl,zhd ⟨HS.o.1.keep (S:=fun _=>False) ((Keeps.refl _ _).alloc _) (fun f=>f),HS.o.2.alloc _⟩⟩
 ·rw[h1,h2,h3]at hr
  simp only[Bool.or_self,znl]at hr;have h5:¬(1100:Int)<cs.size:=by have:=zny h3;omega
  have h6:0≤left - 1:=by have:=zny h1;omega
  have hl:=zhd hr;clear hr h3;go_wp2_with fail;obtain⟨w1,hw1'⟩:∃w1,w1=(w.setCell ⟨b,0,none⟩ (.int .i64 (left - 1))).alloc (.cells #[.int .i64 ck,.int .i64 cn,.string cs,.slice la ln lc] 38):=⟨_,rfl⟩;have X1:LX w1 b (left - 1):=by rw[hw1'];exact HS.o.1.keep (S:=fun _=>False) ((Keeps.refl _ _).alloc _) (fun f=>f)
  have K1:Keeps (fun j=>j=b) w w1:=by rw[hw1'];exact HS.o.2.alloc _
  rw[←hw1'];have H1:=zh2 X1 K1;clear hw1' X1 K1 c0 f0 bne bne2;go_loopg [31] (x.list.length) (fun gk v31 wr=>ypo w b (d+1) x.list r gk v31 wr)
  case atStart=>exact⟨0,_,rfl,znq _,rfl,H1.o.1,H1.o.2,hl.o,h6,by omega⟩
  case round=>
   obtain⟨i,cur,rfl,hi,hgk,hX,hK,hf,hc0,hc4⟩:=hrel;by_cases hin:i<ln
   ·obtain⟨y,hy⟩:=yad (l:=x.list) (k:=i) (by have:=HL.o;omega)
    obtain⟨g,off,rfl,hFg,hg,hel⟩:=HE.o.resolve_left (fun e=>by rw[e]at hy;simp at hy);obtain⟨c',hC,q0,q1,q2,q3⟩:=hel i y hy;have hgb:¬g=b:=fun e=>hF (e▸hFg);have hgl:g<wr.heap.size:=by have:=hK.size;omega
    rw[←hK.cell (p:=⟨g,_,none⟩) hg hgb]at q0 q1 q2 q3;have hdr:x.list.drop i=y::x.list.drop (i+1):=by
     rw[znr (zge hy).1,(zge hy).2]
    rw[hdr,yd1]at hf;have hyp:y.parts≤n:=by
     have:=Val.parts_lt (v:=x) (zmg hy);omega
    have hin':(i:Int)<ln:=by omega
    have hwi:IntKind.i64.wrap ((i:Int)+1)=(i:Int)+1:=zmk _ (by omega);have CA:=zhd (HI.o y hyp b (d+1) cur c' F _ (hX.keep (S:=fun _=>False) ((Keeps.refl _ _).alloc (.cells #[.int .i64 c'.kind,.int .i64 c'.n,.string c'.s,.slice c'.la c'.ln c'.lc] 38)) (fun f=>f)) ((hC.keep hK (fun g h e=>hF (e▸h))).keep (S:=fun _=>False) ((Keeps.refl _ _).alloc _) (fun _ _ f=>f)) hF hc0 hc4 (by omega) (by have:=zny h2;omega));have hbd:=ye9 y (d+1) cur hc4;generalize fitV (d+1) y cur=fv at*;have HX:=zh4 hf hgk hK hbd;clear hf hgk hK hbd hC hX hdr hy hel;go_wp2_with fail;refine CA.o.mono ?_;rintro e w5 ⟨rfl,H5⟩;have K5:Keeps (fun j=>j=b) w w5:=(HX.o.2.2.1.alloc _).trans H5.o.2 (fun _ _ e=>e);have HK5:=zhd K5;clear K5 CA;cases hfv:fv.1 with
    |false=>
     have hr:=HX.o.1;rw[hfv]at hr;simp only[znl]at hr;subst hr;go_wp2_with fail;go_ret;exact⟨rfl,zhd ⟨H5.o.1,HK5.o⟩⟩
    |true=>
     have hr:=HX.o.1;rw[hfv]at hr;simp only[znm]at hr;have HR:=zhd hr;clear hr;go_wp2_with fail;go_roundg (x.list.length - (i+1))
     case measure=>have:=HX.o.2.1;have:=HL.o;omega
     case rel=>exact⟨i+1,fv.2,by simp,by have:=HL.o;omega,rfl,H5.o.1,HK5.o,HR.o,HX.o.2.2.2.2 hfv,HX.o.2.2.2.1⟩
   ·obtain rfl:i=ln:=by have:=HL.o;omega
    rw[zns (by have:=HL.o;omega),yhH]at hf;have HX:=zh2 hX hK;subst hf;clear hX hK hgk;go_wp2_with fail;go_ret;exact⟨rfl,zhd ⟨HX.o.1,HX.o.2⟩⟩
theorem ycX:∀(n:Nat) (x:Val),x.parts≤n→∀(b:Nat) (d left:Int) (c:VC) (F:Nat→Prop) (w:World),LX w b left→CF F w c x→¬F b→0≤left→left≤400→0≤d→d≤100→
  Calls Tryz.prog 65 #[.agg #[.int .i64 c.kind,.int .i64 c.n,.string c.s,.slice c.la c.ln c.lc],.int .i64 d,.pointer (some ⟨b,0,none⟩)] w (ymK w b (fitV d x left))
 |0,x,hx,_,_,_,_,_,_,_,_,_,_,_,_,_=>by have:=x.parts_pos;omega
 |n+1,x,hx,b,d,left,⟨ck,cn,cs,la,ln,lc⟩,F,w,H,C,hF,h0,h4,hd0,hd=>ygK n (fun y hy=>ycX n y hy) x hx b d left ck cn cs la ln lc F w H C hF h0 h4 hd0 hd _ rfl
structure SmF (p:Img)(l:List Ev):Prop where
 code:p.code.length≤40
 len:l.length≤20
 consts:∀x∈p.consts,x.all (fun _ _ s=>s.size≤1100)
 evs:∀e∈l,e.v.all (fun _ _ s=>s.size≤1100)
def ynB (p:Img)(l:List Ev)(w:World)(e:Ending)(w':World):Prop:=∃r:Bool,e= .returned (.bool r)∧Hid ((r=true→SmF p l)∧Below w.heap.size w w')
def Sm1 (w1:World)(b:Nat)(l:List Val)(gk:Nat)(v36:Value)(wr:World):Prop:=
 ∃(i:Nat) (cur:Int),v36= .int .i64 i∧i≤l.length∧gk=l.length - i∧LX wr b cur∧Keeps (fun j=>j=b) w1 wr∧0≤cur∧cur≤400∧∀x∈l.take i,x.all (fun _ _ s=>s.size≤1100)
def Sm2 (w1:World)(b:Nat)(l:List Ev)(gk:Nat)(v46:Value)(wr:World):Prop:=
 ∃(i:Nat) (cur:Int),v46= .int .i64 i∧i≤l.length∧gk=l.length - i∧LX wr b cur∧Keeps (fun j=>j=b) w1 wr∧0≤cur∧cur≤400∧∀e∈l.take i,e.v.all (fun _ _ s=>s.size≤1100)
theorem yhe {α:Type}{P:α→Prop}{l:List α}{i:Nat}{x:α}(h:∀y∈l.take i,P y)(hx:l[i]? =some x)(hp:P x):∀y∈l.take (i+1),P y:=fun y hy=>by
 rw[List.take_add_one,hx]at hy;rcases List.mem_append.1 hy with hy|hy
 ·exact h y hy
 ·simp at hy
  rw[hy];exact hp
theorem ygj (F:Nat→Prop)(w:World)(i:IC)(p:Img)(H:IAt F w i p)(G:Nat→Prop)(ea:Option Addr)(en ec:Nat)(l:List Ev)(E:XRd G w (.slice ea en ec) l):
  Calls Tryz.prog 24 #[.agg #[.slice i.ca i.cn i.cc,.slice i.ka i.kn i.kc,.slice i.na i.nn i.nc,.int .i64 i.pl],.slice ea en ec] w (ynB p l w):=by
 obtain⟨h1,h2,h3⟩:=H.lens;have h4:en=l.length:=by obtain⟨a,c,h⟩:=E.slice;cases h;rfl
 have hk:=H.consts.elems.2.2;have hn:=H.names.elems.2.2;obtain⟨ca,cn,cc,ka,kn,kc,na,nn,nc,pl⟩:=i;dsimp only at h1 h2 h3 hk hn;have HE:=zh3 hk hn E;have HL:=zh4 h1 h2 h3 h4;clear H h1 h2 h3 hk hn h4 E;dsimp only;go_enter Tryz.func24,Tryz.ntmps24;by_cases g1:40<cn
 ·have e1:(40:Int)<cn:=by omega
  clear g1;go_wp2_with fail;go_ret;exact⟨false,rfl,zhd ⟨fun h=>(by cases h),zal⟩⟩
 ·have e1:¬(40:Int)<cn:=by omega
  by_cases g2:20<kn
  ·have e2:(20:Int)<kn:=by omega
   clear g1 g2;go_wp2_with fail;go_ret;exact⟨false,rfl,zhd ⟨fun h=>(by cases h),zal⟩⟩
  ·have e2:¬(20:Int)<kn:=by omega
   by_cases g3:20<nn
   ·have e3:(20:Int)<nn:=by omega
    clear g1 g2 g3;go_wp2_with fail;go_ret;exact⟨false,rfl,zhd ⟨fun h=>(by cases h),zal⟩⟩
   ·have e3:¬(20:Int)<nn:=by omega
    by_cases g4:20<en
    ·have e4:(20:Int)<en:=by omega
     clear g1 g2 g3 g4;go_wp2_with fail;go_ret;exact⟨false,rfl,zhd ⟨fun h=>(by cases h),zal⟩⟩
    ·have e4:¬(20:Int)<en:=by omega
     have HG:=zh4 g1 g2 g3 g4;have hkn:kn≤20:=by omega
     have hnn:nn≤20:=by omega
     have hen:en≤20:=by omega
     clear g1 g2 g3 g4;go_wp2_with fail;obtain⟨w1,hw1⟩:∃w1,w1=(w.alloc (.cells #[.slice ca cn cc,.slice ka kn kc,.slice na nn nc,.int .i64 pl] 28)).alloc (.cells #[.int .i64 100] 3):=⟨_,rfl⟩;have B1:Below w.heap.size w w1:=by rw[hw1];exact(zal).alloc (by simp) _
     have X1:LX w1 (w.heap.size+1) 100:=by rw[hw1];exact yar
     have hb1:w1.heap[w.heap.size]? =some (.cells #[.slice ca cn cc,.slice ka kn kc,.slice na nn nc,.int .i64 pl] 28 (0,0)):=by rw[hw1];exact yaE
     rw[←hw1];have H1:=zh3 B1 X1 hb1;clear hw1 B1 X1 hb1;go_loopg [36] (p.consts.length) (fun gk v36 wr=>Sm1 w1 (w.heap.size+1) p.consts gk v36 wr)
     case atStart=>exact⟨0,100,rfl,znq _,rfl,H1.o.2.1,Keeps.refl _ _,by decide,by decide,fun x h=>by simp at h⟩
     case round=>
      obtain⟨i,cur,rfl,hi,hgk,hX,hK,hc0,hc4,hall⟩:=hrel;have hbw:Below w.heap.size w wr:=H1.o.1.trans (hK.below (by have:=zlt H1.o.2.2;omega) (fun j hj e=>by omega));by_cases hin:i<kn
      ·obtain⟨y,hy⟩:=yad (l:=p.consts) (k:=i) (by have:=HL.o.2.1;omega)
       obtain⟨g,off,rfl,hFg,hg,hel⟩:=HE.o.1.resolve_left (fun e=>by rw[e]at hy;simp at hy);obtain⟨c',hC,q0,q1,q2,q3⟩:=hel i y hy;have hgl:g<wr.heap.size:=by have:=hbw.size;omega
       rw[←hbw.cell (p:=⟨g,_,none⟩) hg]at q0 q1 q2 q3;have hin':(i:Int)<kn:=by omega
       have hwi:IntKind.i64.wrap ((i:Int)+1)=(i:Int)+1:=zmk _ (by omega);have CA:=zhd (ycX _ y (znc _) (w.heap.size+1) 0 cur c' (fun j=>j<w.heap.size) _ (hX.keep (S:=fun _=>False) ((Keeps.refl _ _).alloc (.cells #[.int .i64 c'.kind,.int .i64 c'.n,.string c'.s,.slice c'.la c'.ln c'.lc] 38)) (fun f=>f)) (((hC.mono (G:=fun j=>j<w.heap.size) (fun g _ hl=>hl)).keep (S:=fun _=>False) (zkb hbw) (fun _ _ f=>f)).keep (S:=fun _=>False) ((Keeps.refl _ _).alloc _) (fun _ _ f=>f)) (by omega) hc0 hc4 (by decide) (by decide));have hbd:=ye9 y 0 cur hc4;have htx:=ye8 y 0 cur;generalize fitV 0 y cur=fv at*;have HX:=zh7 hgk hK hbd hbw hall hy htx;clear hgk hK hbd hC hX hy hel hbw hall htx;go_wp2_with fail;refine CA.o.mono ?_;rintro e w5 ⟨rfl,H5⟩;have K5:=(HX.o.2.1.alloc (.cells #[.int .i64 c'.kind,.int .i64 c'.n,.string c'.s,.slice c'.la c'.ln c'.lc] 38)).trans H5.o.2 (fun _ _ e=>e);have HK5:=zhd K5;clear K5 CA;cases hfv:fv.1 with
       |false=>
        clear hfv;go_wp2_with fail;go_ret;exact⟨false,rfl,zhd ⟨fun h=>(by cases h),H1.o.1.trans (HK5.o.below (by have:=zlt H1.o.2.2;omega) (fun j hj e=>by omega))⟩⟩
       |true=>
        have HFV:=zhd hfv;clear hfv;go_wp2_with fail;go_roundg (p.consts.length - (i+1))
        case measure=>have:=HX.o.1;have:=HL.o.2.1;omega
        case rel=>exact⟨i+1,fv.2,by simp,by have:=HL.o.2.1;omega,rfl,H5.o.1,HK5.o,HX.o.2.2.1.2 HFV.o,HX.o.2.2.1.1,yhe HX.o.2.2.2.2.1 HX.o.2.2.2.2.2.1 (HX.o.2.2.2.2.2.2 HFV.o)⟩
      ·obtain rfl:i=kn:=by have:=HL.o.2.1;omega
       rw[zmj (by have:=HL.o.2.1;omega)]at hall;obtain⟨wo,rfl⟩:∃wo:World,wo=wr:=⟨_,rfl⟩;have HC:=zh6 hall hbw hK hX hc0 hc4;clear hall hbw hK hX hc0 hc4 hgk;go_wp2_with fail;go_loopg [46] (l.length) (fun gk v46 wr=>Sm2 wo (w.heap.size+1) l gk v46 wr)
       case atStart=>exact⟨0,cur,rfl,znq _,rfl,HC.o.2.2.2.1,Keeps.refl _ _,HC.o.2.2.2.2.1,HC.o.2.2.2.2.2,fun x h=>by simp at h⟩
       case round=>
        obtain⟨j,cur2,rfl,hj,hgk,hX,hK,hc0,hc4,hall⟩:=hrel;have hbw:Below w.heap.size w wr:=HC.o.2.1.trans (hK.below (by have:=zlt H1.o.2.2;have:=HC.o.2.2.1.size;omega) (fun j hj e=>by omega));by_cases hjn:j<en
        ·obtain⟨ev,hev⟩:=yad (l:=l) (k:=j) (by have:=HL.o.2.2.2;omega)
         obtain⟨g,off,⟨z0,z1,z2,z3,z4,z5,z6,⟨zk,zn,zs,za,zl,zc⟩⟩,rfl,hFg,hg,hrel,hcs⟩:=HE.o.2.2.at_ hev;have hgl:g<wr.heap.size:=by have:=hbw.size;omega
         have q0:w.cell? ⟨g,off+j*11,none⟩=some (.int .i64 z0):=hcs 0 _ rfl;have q1:w.cell? ⟨g,off+j*11+1,none⟩=some (.int .i64 z1):=hcs 1 _ rfl;have q2:w.cell? ⟨g,off+j*11+2,none⟩=some (.int .i64 z2):=hcs 2 _ rfl;have q3:w.cell? ⟨g,off+j*11+3,none⟩=some (.int .i64 z3):=hcs 3 _ rfl;have q4:w.cell? ⟨g,off+j*11+4,none⟩=some (.int .i64 z4):=hcs 4 _ rfl;have q5:w.cell? ⟨g,off+j*11+5,none⟩=some (.string z5):=hcs 5 _ rfl;have q6:w.cell? ⟨g,off+j*11+6,none⟩=some (.string z6):=hcs 6 _ rfl;have q7:w.cell? ⟨g,off+j*11+7,none⟩=some (.int .i64 zk):=hcs 7 _ rfl;have q8:w.cell? ⟨g,off+j*11+8,none⟩=some (.int .i64 zn):=hcs 8 _ rfl;have q9:w.cell? ⟨g,off+j*11+9,none⟩=some (.string zs):=hcs 9 _ rfl;have q10:w.cell? ⟨g,off+j*11+10,none⟩=some (.slice za zl zc):=hcs 10 _ rfl;rw[←hbw.cell (p:=⟨g,_,none⟩) hg]at q0 q1 q2 q3 q4 q5 q6 q7 q8 q9 q10;have hjn':(j:Int)<en:=by omega
         have hwi:IntKind.i64.wrap ((j:Int)+1)=(j:Int)+1:=zmk _ (by omega);have hrel2:EvF G w ⟨z0,z1,z2,z3,z4,z5,z6,⟨zk,zn,zs,za,zl,zc⟩⟩ ev:=hrel;have CA:=zhd (ycX _ ev.v (znc _) (w.heap.size+1) 0 cur2 ⟨zk,zn,zs,za,zl,zc⟩ (fun j=>j<w.heap.size) _ (hX.keep (S:=fun _=>False) ((Keeps.refl _ _).alloc (.cells #[.int .i64 z0,.int .i64 z1,.int .i64 z2,.int .i64 z3,.int .i64 z4,.string z5,.string z6,.int .i64 zk,.int .i64 zn,.string zs,.slice za zl zc] 40)) (fun f=>f)) (((hrel2.v.mono (G:=fun j=>j<w.heap.size) (fun g _ hl=>hl)).keep (S:=fun _=>False) (zkb hbw) (fun _ _ f=>f)).keep (S:=fun _=>False) ((Keeps.refl _ _).alloc _) (fun _ _ f=>f)) (by omega) hc0 hc4 (by decide) (by decide));have hbd:=ye9 ev.v 0 cur2 hc4;have htx:=ye8 ev.v 0 cur2;generalize fitV 0 ev.v cur2=fv at*;have HX:=zh7 hgk hK hbd hbw hall hev htx;clear hgk hK hbd hrel hrel2 hX hev hcs hbw hall htx;have bad:∀W',Keeps (fun j=>j=w.heap.size+1) wo W'→Below w.heap.size w W':=fun W' K=>HC.o.2.1.trans (K.below (by have:=zlt H1.o.2.2;have:=HC.o.2.2.1.size;omega) (fun j hj e=>by omega));have HBA:=zhd bad;clear bad;by_cases y1:(100:Int)<z5.size
         ·have _u:=trivial
          go_wp2_with fail;go_ret;exact⟨false,rfl,zhd ⟨fun h=>(by cases h),HBA.o _ (HX.o.2.1.alloc _)⟩⟩
         ·by_cases y2:(200:Int)<z6.size
          ·have _u:=trivial
           go_wp2_with fail;go_ret;exact⟨false,rfl,zhd ⟨fun h=>(by cases h),HBA.o _ (HX.o.2.1.alloc _)⟩⟩
          ·have _u:=trivial
           go_wp2_with fail;refine CA.o.mono ?_;rintro e w5 ⟨rfl,H5⟩;have HK5:=zhd ((HX.o.2.1.alloc (.cells #[.int .i64 z0,.int .i64 z1,.int .i64 z2,.int .i64 z3,.int .i64 z4,.string z5,.string z6,.int .i64 zk,.int .i64 zn,.string zs,.slice za zl zc] 40)).trans H5.o.2 (fun _ _ e=>e));clear CA;cases hfv:fv.1 with
           |false=>
            clear hfv;go_wp2_with fail;go_ret;exact⟨false,rfl,zhd ⟨fun h=>(by cases h),HBA.o _ HK5.o⟩⟩
           |true=>
            have HFV:=zhd hfv;clear hfv;go_wp2_with fail;go_roundg (l.length - (j+1))
            case measure=>have:=HX.o.1;have:=HL.o.2.2.2;omega
            case rel=>exact⟨j+1,fv.2,by simp,by have:=HL.o.2.2.2;omega,rfl,H5.o.1,HK5.o,HX.o.2.2.1.2 HFV.o,HX.o.2.2.1.1,yhe HX.o.2.2.2.2.1 HX.o.2.2.2.2.2.1 (HX.o.2.2.2.2.2.2 HFV.o)⟩
        ·obtain rfl:j=en:=by have:=HL.o.2.2.2;omega
         rw[zmj (by have:=HL.o.2.2.2;omega)]at hall;have hb2:=(hK.block w.heap.size (znj (zlt H1.o.2.2) HC.o.2.2.1.size) (by omega)).trans ((HC.o.2.2.1.block w.heap.size (zlt H1.o.2.2) (by omega)).trans H1.o.2.2);have q2:=zca hb2 2 rfl;have lt1:=zlt hb2;obtain⟨wp,rfl⟩:∃wp:World,wp=wr:=⟨_,rfl⟩;have HR2:=zh2 hall hbw;clear hall hbw hK hX hgk hb2;go_wp2_with fail;go_loopg [70] (p.names.length) (fun gk v70 wr=>∃j:Nat,v70= .int .i64 j∧j≤p.names.length∧gk=p.names.length - j∧wr=wp)
         case atStart=>exact⟨0,rfl,znq _,rfl,rfl⟩
         case round=>
          obtain⟨m,rfl,hm,hgk,hwr⟩:=hrel;subst hwr;by_cases hmn:m<nn
          ·obtain⟨x,hx⟩:=yad (l:=p.names) (k:=m) (by have:=HL.o.2.2.1;omega)
           obtain⟨g,off,ha,hel⟩:=HE.o.2.1;obtain⟨hFg,hg,hcs⟩:=hel m x hx;have ha:=ha.resolve_right (fun e=>by rw[e]at hx;simp at hx);subst ha;have m0:=hcs 0 _ rfl;rw[show off+(m*sz ByteArray+0)=off+m from by simp[Cells.sz]]at m0;rw[←HR2.o.2.cell (p:=⟨g,_,none⟩) hg]at m0;have hgl:g<wr.heap.size:=by have:=HR2.o.2.size;omega
           have hmn':(m:Int)<nn:=by omega
           have HGK:=zhd hgk;clear hgk hx hcs hel;by_cases h5:(100:Int)<x.size
           ·go_wp2_with fail
            go_ret;exact⟨false,rfl,zhd ⟨fun h=>(by cases h),HR2.o.2⟩⟩
           ·go_wp2_with fail
            go_roundg (p.names.length - (m+1))
            case measure=>have:=HGK.o;have:=HL.o.2.2.1;omega
            case rel=>exact⟨m+1,by simp,by have:=HL.o.2.2.1;omega,rfl,rfl⟩
          ·obtain rfl:m=nn:=by have:=HL.o.2.2.1;omega
           clear hgk;go_wp2_with fail;go_ret;exact⟨true,rfl,zhd ⟨fun _=>⟨by have:=HL.o.1;have:=HG.o.1;omega,by have:=HL.o.2.2.2;omega,HC.o.1,HR2.o.1⟩,HR2.o.2⟩⟩
end Go.Proofs.YtpagmlndgblhhaaGreatDoor
namespace Go.Va
open Go.Own Go.RowKit
open Go.Proofs.YtpagmlndgblhhaaGreatDoor
theorem yjW {p:Img}{fa:Fa}(K:Known p fa)(P:Pk p)(hsp:fa.span≤p.code.length+1):∀(l:List Ev) (r:RP),St p fa r.m→(∀e∈l,e.v.wf)→r.m.events+(ycj l).length≤30→r.next≤r.m.made.length→
  St p fa (yaK p r l).m∧(yaK p r l).m.events≤r.m.events+(ycj l).length∧(yaK p r l).next≤(yaK p r l).m.made.length∧(yaK p r l).seen≤r.seen+l.length
 |[],r,S,_,_,hn=>⟨S,Nat.le_add_right _ _,hn,znc _⟩
 |e::l,r,S,hw,he,hn=>by
  have ho:ycj (e::l)=ycj [e]++ycj l:=ydk [e] l;rw[ho,znk]at he⊢;by_cases h0:r.err=0
  ·rw[ycJ h0]
   obtain⟨S1,h1,h2,h3⟩:=yhq K P hsp S (hw e zmf) (by omega) hn;obtain⟨S2,i1,i2,i3⟩:=yjW K P hsp l {(ybo p r e).2 with err:=(ybo p r e).1} S1 (fun x hx=>hw x (zme _ hx)) (by show(ybo p r e).2.m.events+_≤30;omega) h2;have i1:(yaK p {(ybo p r e).2 with err:=(ybo p r e).1} l).m.events≤(ybo p r e).2.m.events+(ycj l).length:=i1;have i3:(yaK p {(ybo p r e).2 with err:=(ybo p r e).1} l).seen≤(ybo p r e).2.seen+l.length:=i3;rw[List.length_cons];exact⟨S2,by omega,i2,by omega⟩
  ·rw[ybF h0]
   exact⟨S,Nat.le_add_right _ _,hn,Nat.le_add_right _ _⟩
end Go.Va
namespace Go.Proofs.YtpagmlndgblhhaaGreatDoor
open Go.RowKit Go.Own Go.Own.MapTy Go.Va Go.Sort
open Go.Own.Cells (sz enc)
set_option linter.unusedVariables false
set_option linter.unusedSimpArgs false
theorem BoxI.all5 {w:World}{b:Nat}{i:IC}(h:BoxI w b i):w.cell? ⟨b,0,none⟩=some (.slice i.ca i.cn i.cc)∧w.cell? ⟨b,1,none⟩=some (.slice i.ka i.kn i.kc)∧w.cell? ⟨b,2,none⟩=some (.slice i.na i.nn i.nc)∧w.cell? ⟨b,3,none⟩=some (.int .i64 i.pl)∧b<w.heap.size:=⟨h.c0,h.c1,h.c2,h.c3,h.lt⟩
theorem ynb {F:Nat→Prop}{w:World}{g:Nat}{id t k a bb:Int}{nm tx:ByteArray}{vk vn:Int}{vs:ByteArray}{la:Option Addr}{ln lc:Nat}{x:Val}(h:w.heap[g]? =some (.cells #[.int .i64 id,.int .i64 t,.int .i64 k,.int .i64 a,.int .i64 bb,.string nm,.string tx,.int .i64 vk,.int .i64 vn,.string vs,.slice la ln lc] 40 (0,0)))(C:CF F w ⟨vk,vn,vs,la,ln,lc⟩ x):XRd (fun j=>j=g∨F j) w (.slice (some ⟨g,0,none⟩) 1 1) [(⟨id,t,k,a,bb,nm,tx,x⟩:Ev)]:=by
 refine⟨[⟨id,t,k,a,bb,nm,tx,⟨vk,vn,vs,la,ln,lc⟩⟩],RdF.of_row (RowAt.made h rfl rfl (by unfold maxLen;omega)) (fun q hq=>by cases hq;exact .inl rfl),rfl,fun i c y hc hx=> ?_⟩
 match i,hc,hx with
 |0,hc,hx=>cases hc;cases hx;exact⟨rfl,rfl,rfl,rfl,rfl,rfl,rfl,C.mono (fun g h _=>.inr h)⟩
 |n+1,hc,hx=>cases hc
structure LwR (p:Img)(fa:Fa)(N0 rb b mb:Nat)(v:MV)(r:RP)(w:World):Prop where
 rx:RPX TR (fun j=>N0≤j) w rb b mb v p r
 own:∀j,RO rb b mb v j→N0≤j
 st:St p fa r.m
 nx:r.next≤r.m.made.length
theorem LwR.ext {p:Img}{fa:Fa}{N0 rb b mb:Nat}{v:MV}{r:RP}{w w':World}(L:LwR p fa N0 rb b mb v r w)(B:Below w.heap.size w w'):LwR p fa N0 rb b mb v r w':=⟨L.rx.ext B,L.own,L.st,L.nx⟩
theorem LwR.ge {p:Img}{fa:Fa}{N0 rb b mb:Nat}{v:MV}{r:RP}{w:World}(L:LwR p fa N0 rb b mb v r w):N0≤w.heap.size:=by
 have h1:=L.own rb (.inl rfl);have h2:=zlt L.rx.h;omega
def ynM (p:Img)(fa:Fa)(N0 rb b mb:Nat)(v:MV)(r:RP)(w:World)(e:Ending)(w':World):Prop:=∃v',e= .returned (.int .i64 r.err)∧Hid (LwR p fa N0 rb b mb v' r w'∧RPK rb b mb v w v' w')
theorem LwR.feed {p:Img}{fa:Fa}{N0 rb b mb:Nat}{v:MV}{r:RP}{w:World}(L:LwR p fa N0 rb b mb v r w){N:Nat}(G:Gl Tryz.prog N w)(hN:N≤N0)(K:Known p fa)(P:Pk p)(hsp:fa.span≤p.code.length+1)(F:Nat→Prop)(ea:Option Addr)(en ec:Nat)(l:List Ev)(E:XRd F w (.slice ea en ec) l)(hew:∀e∈l,e.v.wf)(hev:r.m.events+(ycj l).length≤30)(hsn:r.seen+l.length≤4000000)(hF:∀g,F g→¬RO rb b mb v g)(hFl:∀g,F g→g<w.heap.size):
  Calls Tryz.prog 18 #[.pointer (some ⟨rb,0,none⟩),.slice ea en ec] w (ynM p fa N0 rb b mb v (yaK p r l) w):=by
 refine(yhI rb b mb v p r w L.rx G F ea en ec l E hew fa K P hsp L.st hev hsn L.nx (fun j hj=>by have:=L.ge;show N0≤j;omega) hF (fun g hg=>znf hN (L.own g hg)) hFl).mono ?_;rintro e w' ⟨v',rfl,H⟩;obtain⟨S1,_,h2,_⟩:=yjW K P hsp l r L.st hew hev L.nx;exact⟨v',rfl,zhd ⟨⟨H.o.1,fun j hj=>(H.o.2.ro hj).elim (L.own j) (fun h=>znf L.ge h),S1,h2⟩,H.o.2⟩⟩
theorem LwR.far {p:Img}{fa:Fa}{N0 rb b mb:Nat}{v v':MV}{r:RP}{W w w':World}(L:LwR p fa N0 rb b mb v r w)(B:Below W.heap.size W w)(h0:W.heap.size≤N0)(K:RPK rb b mb v w v' w'):Below W.heap.size W w':=B.trans (K.keeps.below B.size (fun q hq e=>by have:=L.own q e;omega))
theorem LwR.pending {p:Img}{fa:Fa}{N0 rb b mb:Nat}{v:MV}{r:RP}{w:World}(L:LwR p fa N0 rb b mb v r w)(hev:r.m.events≤30):Calls Tryz.prog 12 #[.pointer (some ⟨rb,0,none⟩)] w (yhT w ((ybD r).map yaG)):=by
 cases h:(r.err !=0||r.closed)with
 |true=>exact yfx rb b mb v p r w L.rx h
 |false=>
  obtain⟨h1,h2⟩:=Bool.or_eq_false_iff.1 h;exact yc7 rb b mb v p r w L.rx (by simpa using h1) h2 (yjz L.st) (by have:=L.st.bd;omega) L.nx
def Lf1 (W:World)(p:Img)(fa:Fa)(N0 rb b mb:Nat)(v:MV)(r1:RP)(w:World)(e:Ending)(w':World):Prop:=∃v',e= .returned (.int .i64 r1.err)∧Hid (LwR p fa N0 rb b mb v' r1 w'∧Below W.heap.size W w'∧∀g,g<w.heap.size→¬RO rb b mb v g→¬RO rb b mb v' g∧w'.heap[g]? =w.heap[g]?)
theorem LwR.feed1 {p:Img}{fa:Fa}{N0 rb b mb:Nat}{v:MV}{r:RP}{w W:World}(L:LwR p fa N0 rb b mb v r w){N:Nat}(G:Gl Tryz.prog N W)(hN:N≤N0)(K:Known p fa)(P:Pk p)(hsp:fa.span≤p.code.length+1)(BW:Below W.heap.size W w)(h0:W.heap.size≤N0)
  (id t k a bb:Int)(nm tx:ByteArray)(x:Val)(vk vn:Int)(vs:ByteArray)(la:Option Addr)(ln lc:Nat)(C:CF (fun q=>q<W.heap.size) W ⟨vk,vn,vs,la,ln,lc⟩ x)(hw:x.wf)(hev:r.m.events+1≤30)(hsn:r.seen+1≤4000000)(r1:RP)(hr1:yaK p r [⟨id,t,k,a,bb,nm,tx,x⟩]=r1):
  Calls Tryz.prog 18 #[.pointer (some ⟨rb,0,none⟩),.slice (some ⟨w.heap.size,0,none⟩) 1 1] (w.alloc (.cells #[.int .i64 id,.int .i64 t,.int .i64 k,.int .i64 a,.int .i64 bb,.string nm,.string tx,.int .i64 vk,.int .i64 vn,.string vs,.slice la ln lc] 40)) (Lf1 W p fa N0 rb b mb v r1 w):=by
 have B:Below w.heap.size w (w.alloc (.cells #[.int .i64 id,.int .i64 t,.int .i64 k,.int .i64 a,.int .i64 bb,.string nm,.string tx,.int .i64 vk,.int .i64 vn,.string vs,.slice la ln lc] 40)):=zal;have BX:=BW.trans (B.mono BW.size);have hs:(w.alloc (.cells #[.int .i64 id,.int .i64 t,.int .i64 k,.int .i64 a,.int .i64 bb,.string nm,.string tx,.int .i64 vk,.int .i64 vn,.string vs,.slice la ln lc] 40)).heap.size=w.heap.size+1:=by simp
 refine((L.ext B).feed (G.below BX) hN K P hsp (fun q=>q=w.heap.size∨q<W.heap.size) _ _ _ [⟨id,t,k,a,bb,nm,tx,x⟩] (ynb (znb _ _) (C.keep (S:=fun _=>False) (zkb BX) (fun _ _ f=>f))) (fun y hy=>by rw[List.mem_singleton.1 hy];exact hw) ?_ hsn ?_ ?_).mono ?_
 ·have:(ycj [(⟨id,t,k,a,bb,nm,tx,x⟩:Ev)]).length≤1:=List.length_filter_le _ _
  omega
 ·rintro q (rfl|hq) e
  ·have:=L.rx.lt e;omega
  ·have:=L.own q e;omega
 ·rintro q (rfl|hq)
  ·omega
  ·have:=BW.size;omega
 ·rintro e w' ⟨v',rfl,H⟩
  rw[hr1]at H⊢;have KX:RPK rb b mb v w v' w':=(RPK.ext B).trans H.o.2;refine⟨v',rfl,zhd ⟨H.o.1,L.far BW h0 KX,fun g hg hn=>⟨fun e=>(KX.ro e).elim hn (fun h=>by omega),KX.keeps.block g hg hn⟩⟩⟩
theorem LwR.feed0 {p:Img}{fa:Fa}{N0 rb b mb:Nat}{v:MV}{r:RP}{w W:World}(L:LwR p fa N0 rb b mb v r w){N:Nat}(G:Gl Tryz.prog N W)(hN:N≤N0)(K:Known p fa)(P:Pk p)(hsp:fa.span≤p.code.length+1)(BW:Below W.heap.size W w)(h0:W.heap.size≤N0)(hev:r.m.events≤30)(hsn:r.seen≤4000000):
  Calls Tryz.prog 18 #[.pointer (some ⟨rb,0,none⟩),.slice none 0 0] w (Lf1 W p fa N0 rb b mb v r w):=by
 refine(L.feed (G.below BW) hN K P hsp (fun _=>False) _ _ _ [] (XRd.nil _ _) (fun y hy=>by cases hy) hev hsn (fun _ f=>f.elim) (fun _ f=>f.elim)).mono ?_;rintro e w' ⟨v',rfl,H⟩;exact⟨v',rfl,zhd ⟨H.o.1,L.far BW h0 H.o.2,fun g hg hn=>⟨fun e=>(H.o.2.ro e).elim hn (fun h=>by omega),H.o.2.keeps.block g hg hn⟩⟩⟩
end Go.Proofs.YtpagmlndgblhhaaGreatDoor
