/- Parts of the proof: what the functions and the plain laws give that later parts lean on. Conditions: none beyond those that each theorem names. -/
import Derived.Laws.OwnMore
import Derived.Lib.AppendStr
import Derived.Laws.Bits64
import Derived.Test.YtpagmlndgblhhaaGreatDoorR2
set_option maxRecDepth 100000
set_option maxHeartbeats 8000000
namespace Go.Va
open Go.Own Go.RowKit
def yal:Val→Nat→Nat×Int→Nat×Int
 | .mk k _ s l,d,(p,e)=>
   bif e !=0 then(p,e)else
   bif decide (256≤p)then(p+1,2)else
   bif k==0||k==1 then(p+1,0)else
   bif k==2 then(p+1,bif decide (256<s.size)then 2 else 0)else
   bif k==3 then walkL l (d+1) (p+1,bif decide (8≤d)then 30 else bif decide (64<l.length)then 2 else 0)else(p+1,9)
where walkL:List Val→Nat→Nat×Int→Nat×Int
 |[],_,c=>c
 |x::r,d,c=>bif c.2 !=0 then c else walkL r d (yal x d c)
theorem ybT (x:Val)(d p:Nat)(e:Int):yal x d (p,e)=bif e !=0 then(p,e)else
  bif decide (256≤p)then(p+1,2)else
  bif x.kind==0||x.kind==1 then(p+1,0)else
  bif x.kind==2 then(p+1,bif decide (256<x.txt.size)then 2 else 0)else
  bif x.kind==3 then yal.walkL x.list (d+1) (p+1,bif decide (8≤d)then 30 else bif decide (64<x.list.length)then 2 else 0)else(p+1,9):=by
 cases x;rw[yal];rfl
theorem yaL (x:Val)(r:List Val)(d:Nat)(c:Nat×Int):yal.walkL (x::r) d c=bif c.2 !=0 then c else yal.walkL r d (yal x d c):=by
 rw[yal.walkL]
theorem yaU (d:Nat)(c:Nat×Int):yal.walkL [] d c=c:=by rw[yal.walkL]
theorem yaV (r:List Val)(d:Nat)(c:Nat×Int)(h:(c.2 !=0)=true):yal.walkL r d c=c:=by
 cases r with
 |nil=>rw[yaU]
 |cons x r=>rw[yaL,h];rfl
mutual
theorem ycA:∀(x:Val) (d:Nat) (c:Nat×Int),(c.2=0→c.1≤256)→((yal x d c).2=0→(yal x d c).1≤256)
 | .mk k n s l,d,(p,e),h=>by
   rw[yal];cases h1:(e !=0)with
   |true=>simpa using h
   |false=>
    cases h2:decide (256≤p)with
    |true=>simp
    |false=>
     rw[znz]at h2;cases h3:(k==0||k==1)with
     |true=>simp;omega
     |false=>
      cases h4:(k==2)with
      |true=>simp;omega
      |false=>
       cases h5:(k==3)with
       |true=>
        simp only[znl,znm];exact yhc l (d+1) _ (fun _=>by simp;omega)
       |false=>simp
theorem yhc:∀(l:List Val) (d:Nat) (c:Nat×Int),(c.2=0→c.1≤256)→((yal.walkL l d c).2=0→(yal.walkL l d c).1≤256)
 |[],d,c,h=>by rw[yaU];exact h
 |x::r,d,c,h=>by
  rw[yaL];cases h1:(c.2 !=0)with
  |true=>exact h
  |false=>exact yhc r d _ (ycA x d c h)
end
end Go.Va
namespace Go.Proofs.YtpagmlndgblhhaaGreatDoor
open Go.RowKit Go.Own Go.Own.MapTy Go.Va Go.Sort
open Go.Own.Cells (sz enc)
def CX (w:World)(b:Nat)(c:Nat×Int):Prop:=w.heap[b]? =some (.cells #[.int .i64 c.1,.int .i64 c.2] 182 (0,0))
theorem CX.c0 {w:World}{b:Nat}{c:Nat×Int}(h:CX w b c):w.cell? ⟨b,0,none⟩=some (.int .i64 c.1):=by rw[zch h];rfl
theorem CX.c1 {w:World}{b:Nat}{c:Nat×Int}(h:CX w b c):w.cell? ⟨b,1,none⟩=some (.int .i64 c.2):=by rw[zch h];rfl
theorem CX.fr {w:World}{b:Nat}{c:Nat×Int}(h:CX w b c)(o:Nat):w.frozen? ⟨b,o,none⟩=false:=zfr h o
theorem CX.lt {w:World}{b:Nat}{c:Nat×Int}(h:CX w b c):b<w.heap.size:=zlt h
theorem CX.keep {w w':World}{b:Nat}{c:Nat×Int}{S:Nat→Prop}(h:CX w b c)(K:Keeps S w w')(hs:¬S b):CX w' b c:=(K.block b h.lt hs).trans h
theorem CX.set0 {w:World}{b p:Nat}{e:Int}(h:CX w b (p,e))(q:Nat):CX (w.setCell ⟨b,0,none⟩ (.int .i64 q)) b (q,e):=by
 unfold CX at h⊢;simp[World.setCell,zni,h]
theorem CX.set1 {w:World}{b p:Nat}{e:Int}(h:CX w b (p,e))(f:Int):CX (w.setCell ⟨b,1,none⟩ (.int .i64 f)) b (p,f):=by
 unfold CX at h⊢;simp[World.setCell,zni,h]
def yg6 (w:World)(b:Nat)(r:Nat×Int)(e:Ending)(w':World):Prop:=e= .returned (.tuple #[])∧CX w' b r∧Keeps (fun j=>j=b) w w'
theorem yku (x:Val)
  (b d p:Nat)(e:Int)(ck cn:Int)(cs:ByteArray)(la:Option Addr)(ln lc:Nat)(F:Nat→Prop)(w:World)(H:CX w b (p,e))(C:CF F w ⟨ck,cn,cs,la,ln,lc⟩ x)(hF:¬F b)(hd:d≤8)(hp:e=0→p≤256)(r:Nat×Int)(hr:yal x d (p,e)=r)
  (he:(e !=0)=true):
  Calls Tryz.prog 99 #[.pointer (some ⟨b,0,none⟩),.agg #[.int .i64 ck,.int .i64 cn,.string cs,.slice la ln lc],.int .i64 d] w (yg6 w b r)
  :=by
 have _h:=zai hF (zai hd hp);have b0:=H.lt;have c0:=H.c0;have c1:=H.c1;have f0:=H.fr;rw[ybT]at hr;have hck:ck=x.kind:=C.kind;have hcs:cs=x.txt:=C.s;have HH:=zh2 H C;clear H C;dsimp only at c0 c1;go_enter Tryz.func99,Tryz.ntmps99;rw[he]at hr;have HR:=zhd hr;clear hr hck hcs;go_wp2_with fail;have hr':=HR.o;simp only[znm]at hr';subst hr';exact zng (v:=.tuple #[]) (by simp only[results,Tryz.results99];go_simp) rfl ⟨rfl,HH.o.1.keep (S:=fun _=>False) ((Keeps.refl _ _).alloc _) (fun f=>f),(Keeps.refl _ _).alloc _⟩
theorem yg8 (x:Val)
  (b d p:Nat)(e:Int)(ck cn:Int)(cs:ByteArray)(la:Option Addr)(ln lc:Nat)(F:Nat→Prop)(w:World)(H:CX w b (p,e))(C:CF F w ⟨ck,cn,cs,la,ln,lc⟩ x)(hF:¬F b)(hd:d≤8)(hp:e=0→p≤256)(r:Nat×Int)(hr:yal x d (p,e)=r)
  (he:e=0)(h3:(x.kind==3)=false∨256≤p):
  Calls Tryz.prog 99 #[.pointer (some ⟨b,0,none⟩),.agg #[.int .i64 ck,.int .i64 cn,.string cs,.slice la ln lc],.int .i64 d] w (yg6 w b r)
  :=by
 have _h:=zai hF hd;subst he;have b0:=H.lt;have c0:=H.c0;have c1:=H.c1;have f0:=H.fr;rw[ybT]at hr;have hck:ck=x.kind:=C.kind;have hcs:cs=x.txt:=C.s;have HH:=zh2 H C;clear H C;dsimp only at c0 c1;go_enter Tryz.func99,Tryz.ntmps99;simp only[bne_self_eq_false,znl]at hr;have hp:=hp rfl;have T0:=HH.o.1.set0 (p+1);have K0:Keeps (fun j=>j=b) w (w.setCell ⟨b,0,none⟩ (.int .i64 ((p:Int)+1))):=Keeps.setCell (S:=fun j=>j=b) (p:=⟨b,0,none⟩) (Keeps.refl _ w) (.inl rfl) _;have KA:∀W,Keeps (fun _=>False) W (W.alloc (.cells #[.int .i64 ck,.int .i64 cn,.string cs,.slice la ln lc] 38)):=fun W=>(Keeps.refl _ _).alloc _;have HT:=zh3 T0 K0 KA;clear T0 K0 KA;cases h2:decide (256≤p)with
 |true=>
  rw[h2]at hr;rw[decide_eq_true_eq]at h2;have HR:=zhd hr;have e2:(256:Int)<(p:Int)+1:=by omega
  clear hr hck hcs;go_wp2_with fail;have hr':=HR.o;simp only[znm]at hr';subst hr';exact zng (v:=.tuple #[]) (by simp only[results,Tryz.results99];go_simp) rfl ⟨rfl,(HT.o.1.set1 2).keep (HT.o.2.2 _) (fun f=>f),((HT.o.2.1.setCell (p:=⟨b,1,none⟩) (.inl rfl) (.int .i64 2)).alloc _)⟩
 |false=>
  rw[h2]at hr;simp only[znl]at hr;rw[znz]at h2;have e2:¬(256:Int)<(p:Int)+1:=by omega
  have h3:=h3.resolve_right h2;cases h4:(x.kind==0||x.kind==1)with
  |true=>
   rw[h4]at hr;have HR:=zhd hr;have h4:ck=0∨ck=1:=by rw[hck];simpa using h4
   clear hr hck hcs h3;rcases h4 with rfl|rfl
   all_goals
    go_wp2_with fail;have hr':=HR.o;simp only[znm]at hr';subst hr'
    go_end0
    exact⟨rfl,HT.o.1.keep (HT.o.2.2 _) (fun f=>f),HT.o.2.1.alloc _⟩
  |false=>
   rw[h4]at hr;simp only[znl]at hr;rw[Bool.or_eq_false_iff,←hck]at h4;obtain⟨k0,k1⟩:=h4;cases k2:(x.kind==2)with
   |true=>
    rw[k2]at hr;simp only[znm,←hcs]at hr;obtain rfl:ck=2:=by rw[hck];simpa using k2
    cases hs:decide (256<cs.size)with
    |true=>
     rw[hs]at hr;have HR:=zhd hr;rw[decide_eq_true_eq]at hs;have e5:(256:Int)<cs.size:=by omega
     clear hr hck hcs h3 k0 k1 k2;go_wp2_with fail;have hr':=HR.o;simp only[znm]at hr';subst hr'
     go_end0
     exact⟨rfl,(HT.o.1.set1 2).keep (HT.o.2.2 _) (fun f=>f),((HT.o.2.1.setCell (p:=⟨b,1,none⟩) (.inl rfl) (.int .i64 2)).alloc _)⟩
    |false=>
     rw[hs]at hr;have HR:=zhd hr;rw[znz]at hs;have e5:¬(256:Int)<cs.size:=by omega
     clear hr hck hcs h3 k0 k1 k2;go_wp2_with fail;have hr':=HR.o;simp only[znl]at hr';subst hr'
     go_end0
     exact⟨rfl,HT.o.1.keep (HT.o.2.2 _) (fun f=>f),HT.o.2.1.alloc _⟩
   |false=>
    rw[k2,h3]at hr;have HR:=zhd hr;rw[←hck]at k2 h3;clear hr hck hcs;go_wp2_with fail;have hr':=HR.o;simp only[znl]at hr';subst hr'
    go_end0
    exact⟨rfl,(HT.o.1.set1 9).keep (HT.o.2.2 _) (fun f=>f),((HT.o.2.1.setCell (p:=⟨b,1,none⟩) (.inl rfl) (.int .i64 9)).alloc _)⟩
def yos (w:World)(b d:Nat)(x:Val)(r:Nat×Int)(gk:Nat)(v64:Value)(wr:World):Prop:=
 ∃(i:Nat) (cur:Nat×Int),v64= .int .i64 i∧i≤x.list.length∧gk=x.list.length - i∧CX wr b cur∧Keeps (fun j=>j=b) w wr∧yal.walkL (x.list.drop i) (d+1) cur=r∧(cur.2=0→cur.1≤256∧d<8)∧w.heap.size<wr.heap.size
theorem yiY (n:Nat)(IH:∀(x:Val),x.parts≤n→∀(b d p:Nat) (e:Int) (c:VC) (F:Nat→Prop) (w:World),CX w b (p,e)→CF F w c x→¬F b→d≤8→(e=0→p≤256)→
   Calls Tryz.prog 99 #[.pointer (some ⟨b,0,none⟩),.agg #[.int .i64 c.kind,.int .i64 c.n,.string c.s,.slice c.la c.ln c.lc],.int .i64 d] w (yg6 w b (yal x d (p,e))))
  (x:Val)
  (b d p:Nat)(e:Int)(ck cn:Int)(cs:ByteArray)(la:Option Addr)(ln lc:Nat)(F:Nat→Prop)(w:World)(H:CX w b (p,e))(C:CF F w ⟨ck,cn,cs,la,ln,lc⟩ x)(hF:¬F b)(hd:d≤8)(hp:e=0→p≤256)(r:Nat×Int)(hr:yal x d (p,e)=r)
  (he:e=0)(h3:(x.kind==3)=true)(h2:¬256≤p)(hx:x.parts≤n+1)(g off:Nat)
  (hel:ln=x.list.length∧ln≤maxLen∧(∀(i:Nat) (y:Val),x.list[i]? =some y→F g∧g<w.heap.size∧∃c,CF F w c y∧
    w.cell? ⟨g,off+i*4,none⟩=some (.int .i64 c.kind)∧w.cell? ⟨g,off+i*4+1,none⟩=some (.int .i64 c.n)∧w.cell? ⟨g,off+i*4+2,none⟩=some (.string c.s)∧w.cell? ⟨g,off+i*4+3,none⟩=some (.slice c.la c.ln c.lc)))(hla:la=some ⟨g,off,none⟩):
  Calls Tryz.prog 99 #[.pointer (some ⟨b,0,none⟩),.agg #[.int .i64 ck,.int .i64 cn,.string cs,.slice la ln lc],.int .i64 d] w (yg6 w b r)
  :=by
 subst he;subst hla;have b0:=H.lt;have c0:=H.c0;have c1:=H.c1;have f0:=H.fr;rw[ybT]at hr;have hck:ck=x.kind:=C.kind;have hcs:cs=x.txt:=C.s;have HH:=zh2 H C;clear H C;dsimp only at c0 c1;simp only[bne_self_eq_false,znl]at hr;have hp:=hp rfl;have HI:=zhd IH;have k0:(x.kind==0||x.kind==1)=false:=by have:=beq_iff_eq.1 h3;rw[this];rfl
 have k2:(x.kind==2)=false:=by have:=beq_iff_eq.1 h3;rw[this];rfl
 have hck3:ck=3:=by rw[hck];exact beq_iff_eq.1 h3
 subst hck3;rw[k0,k2,h3]at hr;have hd2:decide (256≤p)=false:=by rw[znz];exact h2
 rw[hd2]at hr;simp only[znl,znm]at hr;have e2:¬(256:Int)<(p:Int)+1:=by omega
 obtain⟨hln,hlm,hel⟩:=hel;rw[←hln]at hr;have HE:=zhd hel;have HL:=zhd hln;unfold maxLen at hlm;have T0:=HH.o.1.set0 (p+1);have K0:Keeps (fun j=>j=b) w (w.setCell ⟨b,0,none⟩ (.int .i64 ((p:Int)+1))):=Keeps.setCell (S:=fun j=>j=b) (p:=⟨b,0,none⟩) (Keeps.refl _ w) (.inl rfl) _;have KA:∀W,Keeps (fun _=>False) W (W.alloc (.cells #[.int .i64 3,.int .i64 cn,.string cs,.slice (some ⟨g,off,none⟩) ln lc] 38)):=fun W=>(Keeps.refl _ _).alloc _;have HT:=zh3 T0 K0 KA;clear T0 K0 KA hck hcs k0 k2 h3 hd2 IH hel hln h2;go_enter Tryz.func99,Tryz.ntmps99;have cases3:(∃e1:Int,yal.walkL x.list (d+1) (p+1,e1)=r∧((8≤d∧e1=30)∨(¬8≤d∧64<ln∧e1=2)∨(¬8≤d∧¬64<ln∧e1=0))):=by
  refine⟨_,hr,?_⟩;by_cases h8:8≤d
  ·exact .inl ⟨h8,by simp[h8]⟩
  ·by_cases h64:64<ln
   ·exact .inr (.inl ⟨h8,h64,by simp[h8,h64]⟩)
   ·exact .inr (.inr ⟨h8,h64,by simp[h8,h64]⟩)
 clear hr;obtain⟨e1,hr,hc3⟩:=cases3;have HR:=zhd hr;clear hr;rcases hc3 with⟨h8,rfl⟩|⟨h8,h64,rfl⟩|⟨h8,h64,rfl⟩
 ·have t8:(8:Int)≤d:=by omega
  go_wp2_with fail;have T1:=(HT.o.1.set1 30).keep (HT.o.2.2 _) (fun f=>f);have K1:=(HT.o.2.1.setCell (p:=⟨b,1,none⟩) (.inl rfl) (.int .i64 30)).alloc (.cells #[.int .i64 3,.int .i64 cn,.string cs,.slice (some ⟨g,off,none⟩) ln lc] 38);go_loopg [64] (x.list.length) (fun gk v64 wr=>yos w b d x r gk v64 wr)
  case atStart=>exact⟨0,(p+1,(30:Int)),rfl,znq _,rfl,T1,K1,HR.o,(by intro h;first|(simp at h;done)|(constructor<;>omega)),by simp⟩
  case round=>
   clear T1 K1 c0 c1 f0;obtain⟨i,cur,rfl,hi,hgk,hT,hK,hw,hbd,hsz⟩:=hrel;have c0:=hT.c0;have c1:=hT.c1;have f0:=hT.fr;have b1:=hT.lt;by_cases hin:i<ln
   ·obtain⟨y,hy⟩:=yad (l:=x.list) (k:=i) (by have:=HL.o;omega)
    obtain⟨hFg,hg,c',hC,q0,q1,q2,q3⟩:=HE.o i y hy;have hgb:g≠b:=fun e=>hF (e▸hFg);have hgl:g<wr.heap.size:=by omega
    rw[←hK.cell (p:=⟨g,_,none⟩) hg hgb]at q0 q1 q2 q3;have hdr:x.list.drop i=y::x.list.drop (i+1):=by
     rw[znr (zge hy).1,(zge hy).2]
    rw[hdr,yaL]at hw;have hC':=hC.keep hK (fun g h e=>hF (e▸h));have hyp:y.parts≤n:=by
     have:=Val.parts_lt (v:=x) (zmg hy);omega
    have hin':(i:Int)<ln:=by omega
    cases hce:(cur.2 !=0)with
    |true=>
     rw[hce]at hw;have HX:=zh3 hw hT hK;clear hw hT hK hgk hbd hC hC' hdr hy;go_wp2_with fail;have hr':=HX.o.1;simp only[znm]at hr';subst hr';exact zng (v:=.tuple #[]) (by simp only[results,Tryz.results99];go_simp) rfl ⟨rfl,HX.o.2.1.keep (S:=fun _=>False) ((Keeps.refl _ _).alloc _) (fun f=>f),HX.o.2.2.alloc _⟩
    |false=>
     rw[hce]at hw;have hc0:cur.2=0:=by simpa using hce
     obtain⟨hb1,hb2⟩:=hbd hc0;exfalso;omega
   ·obtain rfl:i=ln:=by have:=HL.o;omega
    rw[zns (by have:=HL.o;omega),yaU]at hw;have HX:=zh3 hw hT hK;clear hw hT hK hgk hbd;go_wp2_with fail;have hr':=HX.o.1;subst hr'
    go_end0
    exact⟨rfl,HX.o.2.1,HX.o.2.2⟩
 ·have t8:¬(8:Int)≤d:=by omega
  have t64:(64:Int)<ln:=by omega
  go_wp2_with fail;have T1:=(HT.o.1.set1 2).keep (HT.o.2.2 _) (fun f=>f);have K1:=(HT.o.2.1.setCell (p:=⟨b,1,none⟩) (.inl rfl) (.int .i64 2)).alloc (.cells #[.int .i64 3,.int .i64 cn,.string cs,.slice (some ⟨g,off,none⟩) ln lc] 38);go_loopg [64] (x.list.length) (fun gk v64 wr=>yos w b d x r gk v64 wr)
  case atStart=>exact⟨0,(p+1,(2:Int)),rfl,znq _,rfl,T1,K1,HR.o,(by intro h;first|(simp at h;done)|(constructor<;>omega)),by simp⟩
  case round=>
   clear T1 K1 c0 c1 f0;obtain⟨i,cur,rfl,hi,hgk,hT,hK,hw,hbd,hsz⟩:=hrel;have c0:=hT.c0;have c1:=hT.c1;have f0:=hT.fr;have b1:=hT.lt;by_cases hin:i<ln
   ·obtain⟨y,hy⟩:=yad (l:=x.list) (k:=i) (by have:=HL.o;omega)
    obtain⟨hFg,hg,c',hC,q0,q1,q2,q3⟩:=HE.o i y hy;have hgb:g≠b:=fun e=>hF (e▸hFg);have hgl:g<wr.heap.size:=by omega
    rw[←hK.cell (p:=⟨g,_,none⟩) hg hgb]at q0 q1 q2 q3;have hdr:x.list.drop i=y::x.list.drop (i+1):=by
     rw[znr (zge hy).1,(zge hy).2]
    rw[hdr,yaL]at hw;have hC':=hC.keep hK (fun g h e=>hF (e▸h));have hyp:y.parts≤n:=by
     have:=Val.parts_lt (v:=x) (zmg hy);omega
    have hin':(i:Int)<ln:=by omega
    cases hce:(cur.2 !=0)with
    |true=>
     rw[hce]at hw;have HX:=zh3 hw hT hK;clear hw hT hK hgk hbd hC hC' hdr hy;go_wp2_with fail;have hr':=HX.o.1;simp only[znm]at hr';subst hr';exact zng (v:=.tuple #[]) (by simp only[results,Tryz.results99];go_simp) rfl ⟨rfl,HX.o.2.1.keep (S:=fun _=>False) ((Keeps.refl _ _).alloc _) (fun f=>f),HX.o.2.2.alloc _⟩
    |false=>
     rw[hce]at hw;have hc0:cur.2=0:=by simpa using hce
     obtain⟨hb1,hb2⟩:=hbd hc0;have HX:=zh4 hw hT hK hgk;have hTA:=hT.keep (S:=fun _=>False) ((Keeps.refl _ _).alloc (.cells #[.int .i64 c'.kind,.int .i64 c'.n,.string c'.s,.slice c'.la c'.ln c'.lc] 38)) (fun f=>f);have hCA:=hC'.keep (S:=fun _=>False) ((Keeps.refl _ _).alloc (.cells #[.int .i64 c'.kind,.int .i64 c'.n,.string c'.s,.slice c'.la c'.ln c'.lc] 38)) (fun _ _ f=>f);have CA:=zhd (HI.o y hyp b (d+1) cur.1 cur.2 c' F _ hTA hCA hF (by omega) (fun _=>hb1));clear hw hT hK hgk hbd hC hC' hdr hy hTA hCA;go_wp2_with fail;refine CA.o.mono ?_;rintro e w5 ⟨rfl,hT5,hK5⟩;have hb5:=ycA y (d+1) (cur.1,cur.2) (fun _=>hb1);have H5:=zh3 hT5 hK5 hb5;clear hT5 hK5 hb5;go_wp2_with fail;go_roundg (x.list.length - (i+1))
     case measure=>have:=HX.o.2.2.2;have:=HL.o;omega
     case rel=>
      have hw':=HX.o.1;simp only[znl]at hw';refine⟨i+1,_,by simp,(by have:=HL.o;omega),rfl,H5.o.1,(HX.o.2.2.1.alloc _).trans H5.o.2.1 (fun _ _ e=>e),hw',(fun h=>⟨H5.o.2.2 h,hb2⟩),?_⟩;have:=H5.o.2.1.size;simp at this;omega
   ·obtain rfl:i=ln:=by have:=HL.o;omega
    rw[zns (by have:=HL.o;omega),yaU]at hw;have HX:=zh3 hw hT hK;clear hw hT hK hgk hbd;go_wp2_with fail;have hr':=HX.o.1;subst hr'
    go_end0
    exact⟨rfl,HX.o.2.1,HX.o.2.2⟩
 ·have t8:¬(8:Int)≤d:=by omega
  have t64:¬(64:Int)<ln:=by omega
  go_wp2_with fail;have T1:=HT.o.1.keep (HT.o.2.2 _) (fun f=>f);have K1:=HT.o.2.1.alloc (.cells #[.int .i64 3,.int .i64 cn,.string cs,.slice (some ⟨g,off,none⟩) ln lc] 38);go_loopg [64] (x.list.length) (fun gk v64 wr=>yos w b d x r gk v64 wr)
  case atStart=>exact⟨0,(p+1,(0:Int)),rfl,znq _,rfl,T1,K1,HR.o,(by intro h;first|(simp at h;done)|(constructor<;>omega)),by simp⟩
  case round=>
   clear T1 K1 c0 c1 f0;obtain⟨i,cur,rfl,hi,hgk,hT,hK,hw,hbd,hsz⟩:=hrel;have c0:=hT.c0;have c1:=hT.c1;have f0:=hT.fr;have b1:=hT.lt;by_cases hin:i<ln
   ·obtain⟨y,hy⟩:=yad (l:=x.list) (k:=i) (by have:=HL.o;omega)
    obtain⟨hFg,hg,c',hC,q0,q1,q2,q3⟩:=HE.o i y hy;have hgb:g≠b:=fun e=>hF (e▸hFg);have hgl:g<wr.heap.size:=by omega
    rw[←hK.cell (p:=⟨g,_,none⟩) hg hgb]at q0 q1 q2 q3;have hdr:x.list.drop i=y::x.list.drop (i+1):=by
     rw[znr (zge hy).1,(zge hy).2]
    rw[hdr,yaL]at hw;have hC':=hC.keep hK (fun g h e=>hF (e▸h));have hyp:y.parts≤n:=by
     have:=Val.parts_lt (v:=x) (zmg hy);omega
    have hin':(i:Int)<ln:=by omega
    cases hce:(cur.2 !=0)with
    |true=>
     rw[hce]at hw;have HX:=zh3 hw hT hK;clear hw hT hK hgk hbd hC hC' hdr hy;go_wp2_with fail;have hr':=HX.o.1;simp only[znm]at hr';subst hr';exact zng (v:=.tuple #[]) (by simp only[results,Tryz.results99];go_simp) rfl ⟨rfl,HX.o.2.1.keep (S:=fun _=>False) ((Keeps.refl _ _).alloc _) (fun f=>f),HX.o.2.2.alloc _⟩
    |false=>
     rw[hce]at hw;have hc0:cur.2=0:=by simpa using hce
     obtain⟨hb1,hb2⟩:=hbd hc0;have HX:=zh4 hw hT hK hgk;have hTA:=hT.keep (S:=fun _=>False) ((Keeps.refl _ _).alloc (.cells #[.int .i64 c'.kind,.int .i64 c'.n,.string c'.s,.slice c'.la c'.ln c'.lc] 38)) (fun f=>f);have hCA:=hC'.keep (S:=fun _=>False) ((Keeps.refl _ _).alloc (.cells #[.int .i64 c'.kind,.int .i64 c'.n,.string c'.s,.slice c'.la c'.ln c'.lc] 38)) (fun _ _ f=>f);have CA:=zhd (HI.o y hyp b (d+1) cur.1 cur.2 c' F _ hTA hCA hF (by omega) (fun _=>hb1));clear hw hT hK hgk hbd hC hC' hdr hy hTA hCA;go_wp2_with fail;refine CA.o.mono ?_;rintro e w5 ⟨rfl,hT5,hK5⟩;have hb5:=ycA y (d+1) (cur.1,cur.2) (fun _=>hb1);have H5:=zh3 hT5 hK5 hb5;clear hT5 hK5 hb5;go_wp2_with fail;go_roundg (x.list.length - (i+1))
     case measure=>have:=HX.o.2.2.2;have:=HL.o;omega
     case rel=>
      have hw':=HX.o.1;simp only[znl]at hw';refine⟨i+1,_,by simp,(by have:=HL.o;omega),rfl,H5.o.1,(HX.o.2.2.1.alloc _).trans H5.o.2.1 (fun _ _ e=>e),hw',(fun h=>⟨H5.o.2.2 h,hb2⟩),?_⟩;have:=H5.o.2.1.size;simp at this;omega
   ·obtain rfl:i=ln:=by have:=HL.o;omega
    rw[zns (by have:=HL.o;omega),yaU]at hw;have HX:=zh3 hw hT hK;clear hw hT hK hgk hbd;go_wp2_with fail;have hr':=HX.o.1;subst hr'
    go_end0
    exact⟨rfl,HX.o.2.1,HX.o.2.2⟩
theorem yhW (x:Val)
  (b d p:Nat)(e:Int)(ck cn:Int)(cs:ByteArray)(la:Option Addr)(ln lc:Nat)(F:Nat→Prop)(w:World)(H:CX w b (p,e))(C:CF F w ⟨ck,cn,cs,la,ln,lc⟩ x)(hF:¬F b)(hd:d≤8)(hp:e=0→p≤256)(r:Nat×Int)(hr:yal x d (p,e)=r)
  (he:e=0)(h3:(x.kind==3)=true)(h2:¬256≤p)(hl:x.list=[])(hl0:ln=0):
  Calls Tryz.prog 99 #[.pointer (some ⟨b,0,none⟩),.agg #[.int .i64 ck,.int .i64 cn,.string cs,.slice la ln lc],.int .i64 d] w (yg6 w b r)
  :=by
 have _h:=hF;subst he;subst hl0;have b0:=H.lt;have c0:=H.c0;have c1:=H.c1;have f0:=H.fr;rw[ybT]at hr;have hck:ck=x.kind:=C.kind;have hcs:cs=x.txt:=C.s;have HH:=zh2 H C;clear H C;dsimp only at c0 c1;simp only[bne_self_eq_false,znl]at hr;have hp:=hp rfl;have k0:(x.kind==0||x.kind==1)=false:=by have:=beq_iff_eq.1 h3;rw[this];rfl
 have k2:(x.kind==2)=false:=by have:=beq_iff_eq.1 h3;rw[this];rfl
 have hck3:ck=3:=by rw[hck];exact beq_iff_eq.1 h3
 subst hck3;rw[k0,k2,h3]at hr;have hd2:decide (256≤p)=false:=by rw[znz];exact h2
 rw[hd2,hl,yaU]at hr;simp only[znl,znm]at hr;have e2:¬(256:Int)<(p:Int)+1:=by omega
 have T0:=HH.o.1.set0 (p+1);have K0:Keeps (fun j=>j=b) w (w.setCell ⟨b,0,none⟩ (.int .i64 ((p:Int)+1))):=Keeps.setCell (S:=fun j=>j=b) (p:=⟨b,0,none⟩) (Keeps.refl _ w) (.inl rfl) _;have KA:∀W,Keeps (fun _=>False) W (W.alloc (.cells #[.int .i64 3,.int .i64 cn,.string cs,.slice la 0 lc] 38)):=fun W=>(Keeps.refl _ _).alloc _;have HT:=zh3 T0 K0 KA;clear T0 K0 KA hck hcs k0 k2 h3 hd2 h2;go_enter Tryz.func99,Tryz.ntmps99;by_cases h8:8≤d
 ·have t8:(8:Int)≤d:=by omega
  have t9:decide (8≤d)=true:=by rw[decide_eq_true_eq];exact h8
  rw[t9]at hr;have HR:=zhd hr;clear hr t9;go_wp2_with fail;have T1:=(HT.o.1.set1 30).keep (HT.o.2.2 _) (fun f=>f);have K1:=(HT.o.2.1.setCell (p:=⟨b,1,none⟩) (.inl rfl) (.int .i64 30)).alloc (.cells #[.int .i64 3,.int .i64 cn,.string cs,.slice la 0 lc] 38);go_loopg [64] (0) (fun _ v64 wr=>v64= .int .i64 0∧CX wr b (p+1,30)∧Keeps (fun j=>j=b) w wr)
  case atStart=>exact⟨rfl,T1,K1⟩
  case round=>
   obtain⟨rfl,hT,hK⟩:=hrel;have hr':=HR.o;simp only[znm]at hr';subst hr';clear c0 c1 f0 T1 K1 HR;go_wp2_with fail
   go_end0
   exact⟨rfl,hT,hK⟩
 ·have t8:¬(8:Int)≤d:=by omega
  have t9:decide (8≤d)=false:=by rw[znz];exact h8
  rw[t9]at hr;have HR:=zhd hr;clear hr t9;go_wp2_with fail;have T1:=HT.o.1.keep (HT.o.2.2 _) (fun f=>f);have K1:=HT.o.2.1.alloc (.cells #[.int .i64 3,.int .i64 cn,.string cs,.slice la 0 lc] 38);go_loopg [64] (0) (fun _ v64 wr=>v64= .int .i64 0∧CX wr b (p+1,0)∧Keeps (fun j=>j=b) w wr)
  case atStart=>exact⟨rfl,T1,K1⟩
  case round=>
   obtain⟨rfl,hT,hK⟩:=hrel;have hr':=HR.o;simp at hr';subst hr';clear c0 c1 f0 T1 K1 HR;go_wp2_with fail
   go_end0
   exact⟨rfl,hT,hK⟩
theorem yg9:∀(n:Nat) (x:Val),x.parts≤n→∀(b d p:Nat) (e:Int) (c:VC) (F:Nat→Prop) (w:World),CX w b (p,e)→CF F w c x→¬F b→d≤8→(e=0→p≤256)→
   Calls Tryz.prog 99 #[.pointer (some ⟨b,0,none⟩),.agg #[.int .i64 c.kind,.int .i64 c.n,.string c.s,.slice c.la c.ln c.lc],.int .i64 d] w (yg6 w b (yal x d (p,e)))
 |0,x,hx,_,_,_,_,_,_,_,_,_,_,_,_=>by have:=x.parts_pos;omega
 |n+1,x,hx,b,d,p,e,⟨ck,cn,cs,la,ln,lc⟩,F,w,H,C,hF,hd,hp=>by
  cases he:(e !=0)with
  |true=>exact yku x b d p e ck cn cs la ln lc F w H C hF hd hp _ rfl he
  |false=>
   have he0:e=0:=by simpa using he
   by_cases h2:256≤p
   ·exact yg8 x b d p e ck cn cs la ln lc F w H C hF hd hp _ rfl he0 (.inr h2)
   ·cases h3:(x.kind==3)with
    |false=>exact yg8 x b d p e ck cn cs la ln lc F w H C hF hd hp _ rfl he0 (.inl h3)
    |true=>
     obtain⟨h4,h5,h6⟩:=C.l.elems;rcases h6 with h6|⟨g,off,hla,hFg,hg,h6⟩
     ·exact yhW x b d p e ck cn cs la ln lc F w H C hF hd hp _ rfl he0 h3 h2 h6 (by rw[show ln=x.list.length from h4,h6];rfl)
     ·exact yiY n (fun y hy=>yg9 n y hy) x b d p e ck cn cs la ln lc F w H C hF hd hp _ rfl he0 h3 h2 hx g off ⟨h4,h5,fun i y hy=>⟨hFg,hg,h6 i y hy⟩⟩ hla
end Go.Proofs.YtpagmlndgblhhaaGreatDoor
namespace Go.Va
open Go.Own Go.RowKit
def ydi (c:UInt8):Value:=.int .u8 c.toNat
def yht:Nat→Nat→List UInt8
 |0,n=>[UInt8.ofNat n]
 |f+1,n=>bif decide (128≤n)then UInt8.ofNat (n%128+128)::yht f (n/128)else[UInt8.ofNat n]
def ybX (n:Nat):List UInt8:=yht 10 n
theorem ydS:∀(f n:Nat),n<128^ (f+1)→yht f n=yht (f+1) n
 |0,n,h=>by
  rw[yht,yht];have:decide (128≤n)=false:=by rw[znz];omega
  rw[this];rfl
 |f+1,n,h=>by
  rw[yht]
  conv=>rhs;rw[yht]
  cases hn:decide (128≤n)with
  |false=>rfl
  |true=>
   have h2:n/128<128^ (f+1):=by
    rw[Nat.pow_succ]at h;exact Nat.div_lt_of_lt_mul (by rw[Nat.mul_comm];exact h)
   rw[ydS f _ h2]
theorem yhu {n:Nat}(h:128≤n)(hn:n<18446744073709551616):ybX n=UInt8.ofNat (n%128+128)::ybX (n/128):=by
 unfold ybX;rw[yht];have h1:decide (128≤n)=true:=by rw[decide_eq_true_eq];exact h
 rw[h1,ydS 9 (n/128) (by omega)];rfl
theorem yeI {n:Nat}(h:n<128):ybX n=[UInt8.ofNat n]:=by
 unfold ybX;rw[yht];have h1:decide (128≤n)=false:=by rw[znz];omega
 rw[h1];rfl
theorem yhs:∀f n,(yht f n).length≤f+1
 |0,n=>by rw[yht];exact znc _
 |f+1,n=>by
  rw[yht];cases decide (128≤n)with
  |true=>have:=yhs f (n/128);simp;omega
  |false=>simp
theorem ybu (n:Nat):(ybX n).length≤11:=yhs 10 n
def zigL (n:Int):Nat:=if 0≤n then(2*n).toNat else(-2*n - 1).toNat
def textB (s:List UInt8):List UInt8:=ybX s.length++s
theorem yeo {P:Program}{w:World}(t u ty e:TypeId)(ht:P.underlying t=some (.slice e))(hu:P.underlying u=some .string)(hi:(P.info? e).map (fun i=>(i.zero,i.size,i.bytes))=some (some (.int .u8 0),1,1))
  {v:Value}{xs:List UInt8}(h:RowAt w e v xs)(s:ByteArray)(hb:xs.length+s.size≤1099511627776):
  ∃v' w',(Builtin.append_ #[t,u] ty #[v,.string s]).run P w= .ok v' w'∧RowAt w' e v' (xs++s.data.toList)∧Keeps (fun j=>v.ownBlock=some j) w w'∧(∀g,v'.ownBlock=some g→v.ownBlock=some g∨w.heap.size≤g):=by
 obtain⟨i,hi,hz,hs1,hby⟩:=info_parts hi;have el:∀l:List UInt8,l.flatMap (Cells.enc (α:=UInt8))=l.map ydi:=fun l=>by
  induction l with
  |nil=>rfl
  |cons x r ih=>rw[List.flatMap_cons,ih];rfl
 have es:Lib.strCells s=s.data.toList.map ydi:=rfl;have hsl:s.data.toList.length=s.size:=by simp
 have grown:∀(old:Nat),old<xs.length+s.size→
   RowAt (w.drew.alloc (.cells ((xs.map ydi).toArray++(Lib.strCells s).toArray++Builtin.zeroCells (Value.int .u8 0).cells (grownCap w (xs.length+s.size) old e - (xs.length+s.size))) e)) e
    (.slice (some ⟨w.heap.size,0,none⟩) (xs.length+s.size) (grownCap w (xs.length+s.size) old e)) (xs++s.data.toList):=by
  intro old ho;have hge:=grownCap_ge w (xs.length+s.size) old e;have hcm:grownCap w (xs.length+s.size) old e≤maxLen:=grownCap_le_maxLen w _ old e (by unfold maxLen;omega);refine .inr ⟨w.heap.size,0,_,_,by simp[hsl],znb w.drew _,by simpa[hsl]using hge,hcm,?_,?_⟩
  ·have hz1:(Value.int IntKind.u8 0).cells.size=1:=rfl
   simp only[Array.size_append,List.size_toArray,size_zeroCells,hz1,zmd,es,hsl,Cells.sz];omega
  ·intro j u hu
   rw[el,List.map_append]at hu;have hlt:=(zge hu).1;rw[Nat.zero_add,Array.getElem?_append_left (by simpa[es]using hlt)];simpa[es]using hu
 rcases h with⟨rfl,rfl⟩|⟨g,off,cap,cur,rfl,hg,hnc,hcm,hcs,hcells⟩
 ·by_cases hm:s.size=0
  ·have hn:s.data.toList=[]:=List.eq_nil_of_length_eq_zero (by rw[hsl];exact hm)
   have hf:=Lib.run_firstCells_string (P:=P) w 1 s;rw[hm]at hf;refine⟨.slice none 0 0,w,?_,by rw[hn];exact RowAt.nil w e,Keeps.refl _ _,fun g hg=>.inl hg⟩;simp[Builtin.append_,run_underlying ht,run_underlying hu,sizeOf,typeInfo,hi,hs1,Builtin.lenOf,hm,hf]
  ·have hr:=run_append_nil_string (P:=P) (w:=w) t u ty e i (.int .u8 0) ht hu hi hz s (by omega) (by simp at hb;omega) (by rw[hby];simp at hb;omega)
   have hgr:=grown 0 (by simp;omega);simp only[List.length_nil,List.map_nil,Array.empty_append,Nat.zero_add,List.nil_append]at hgr⊢;have e1:(s.data.map fun b=>Value.int .u8 b.toNat)=(Lib.strCells s).toArray:=by
    apply Array.ext';simp[Lib.strCells]
   rw[e1]at hr;exact⟨_,_,hr,hgr,(Keeps.refl _ _).drew.alloc _,fun g hg=>.inr (by simp[Value.ownBlock]at hg;omega)⟩
 ·by_cases hroom:xs.length+s.size≤cap
  ·have hcs':off+cap≤cur.size:=by simpa[Cells.sz]using hcs
   have hl:(Lib.strCells s).length=s.size:=Lib.strCells_length s;have hst:=run_storeCells_cells (P:=P) g (off+xs.length) (Lib.strCells s) 0 w (fun j hj=>by rw[zch hg];simp;omega) (fun j _=>zfr hg _) (Lib.strCells_oneCell s);simp only[Nat.add_zero]at hst;have hf:=Lib.run_firstCells_string (P:=P) w 1 s;have hr:(Builtin.append_ #[t,u] ty #[.slice (some ⟨g,off,none⟩) xs.length cap,.string s]).run P w= .ok (.slice (some ⟨g,off,none⟩) (xs.length+s.size) cap) (w.setCells g (off+xs.length) (Lib.strCells s)):=by
    simp[Builtin.append_,run_underlying ht,run_underlying hu,sizeOf,typeInfo,hi,hs1,Builtin.lenOf,hroom,hf,Addr.add_lit,hst]
   obtain⟨cur',k1,k2,k3,k4⟩:=ybt g e (0,0) (Lib.strCells s) (off+xs.length) w cur hg;obtain⟨s1,s2,s3,s4⟩:=ybs g (Lib.strCells s) (off+xs.length) w;refine⟨_,_,hr,.inr ⟨g,off,cap,cur',by simp[hsl],k1,by simpa[hsl]using hroom,hcm,by rw[k2];exact hcs,fun j u hu=> ?_⟩,(Keeps.refl (fun j=>(Value.slice (some ⟨g,off,none⟩) xs.length cap).ownBlock=some j) _).setCells (.inl rfl) _ _,fun g' hg'=>.inl hg'⟩;rw[el,List.map_append]at hu;by_cases hj:j<xs.length
   ·rw[List.getElem?_append_left (by simpa using hj)]at hu
    rw[k4 _ (by left;omega)];exact hcells j u (by rw[el];exact hu)
   ·rw[List.getElem?_append_right (by simpa using hj)]at hu
    simp only[zmd]at hu;have hlt:=(zge hu).1;simp only[zmd,hsl]at hlt;have:=k3 _ u hu (by omega);rw[←this];congr 1;omega
  ·have hold:∀j u,(xs.map ydi)[j]? =some u→w.cell? ((⟨g,off,none⟩:Addr).add j)=some u:=by
    intro j u hu;rw[Addr.add_lit,zch hg];exact hcells j u (by rw[el];exact hu)
   have hr:=Lib.run_append_grow_string (P:=P) w t u ty e i (.int .u8 0) ht hu hi hz ⟨g,off,none⟩ xs.length cap (xs.map ydi) (by rw[hs1];simp) hold s (by omega) (by omega) (by rw[hby];exact growslice_fits (by omega) (by omega));have hgr:=grown cap (by omega);exact⟨_,_,hr,hgr,(Keeps.refl _ _).drew.alloc _,fun g' hg'=>.inr (by simp[Value.ownBlock]at hg';omega)⟩
end Go.Va
namespace Go.Proofs.YtpagmlndgblhhaaGreatDoor
open Go.RowKit Go.Own Go.Own.MapTy Go.Va Go.Sort
open Go.Own.Cells (sz enc)
def WB (W:World)(b:Nat)(l:List UInt8):Prop:=
 ∃a cap,W.heap[b]? =some (.cells #[.slice a l.length cap] 131 (0,0))∧RowAt W 5 (.slice a l.length cap) l∧(Value.slice a l.length cap).ownBlock≠some b
def ybV (W:World)(b j:Nat):Prop:=∃v,W.heap[b]? =some (.cells #[v] 131 (0,0))∧v.ownBlock=some j
def WK (b:Nat)(W W':World):Prop:=Keeps (fun j=>j=b∨ybV W b j) W W'∧∀j,ybV W' b j→ybV W b j∨W.heap.size≤j
theorem WK.refl (b:Nat)(W:World):WK b W W:=⟨Keeps.refl _ _,fun _ h=>.inl h⟩
theorem WK.trans {b:Nat}{W W' W'':World}(h:WK b W W')(k:WK b W' W''):WK b W W'':=by
 refine⟨h.1.trans k.1 (fun j hj e=> ?_),fun j hj=> ?_⟩
 ·rcases e with e|e
  ·exact .inl e
  ·rcases h.2 j e with h1|h1
   ·exact .inr h1
   ·omega
 ·rcases k.2 j hj with h1|h1
  ·exact h.2 j h1
  ·exact .inr (znf h.1.size h1)
theorem WK.ext {b:Nat}{W W':World}(hb:b<W.heap.size)(K:Below W.heap.size W W'):WK b W W':=
 ⟨(zkb (S:=fun _=>False) K).mono (fun _ _ f=>f.elim),fun j ⟨v,h1,h2⟩=>.inl ⟨v,by rw[←K.block b hb];exact h1,h2⟩⟩
theorem WB.lt {W:World}{b:Nat}{l:List UInt8}(h:WB W b l):b<W.heap.size:=by obtain⟨a,cap,h1,_⟩:=h;exact zlt h1
theorem WB.row {W:World}{b:Nat}{l:List UInt8}(h:WB W b l){j:Nat}(hj:ybV W b j):j≠b∧j<W.heap.size:=by
 obtain⟨a,cap,h1,h2,h3⟩:=h;obtain⟨v,h4,h5⟩:=hj;rw[h1]at h4;cases h4;exact⟨fun e=>h3 (e▸h5),h2.lt h5⟩
theorem WB.alloc {W:World}{b:Nat}{l:List UInt8}(h:WB W b l)(o:Obj):WB (W.alloc o) b l∧WK b W (W.alloc o):=by
 refine⟨?_,WK.ext h.lt (zal)⟩;obtain⟨a,cap,h1,h2,h3⟩:=h;exact⟨a,cap,(zne _ _ _ (zlt h1)).trans h1,h2.alloc _,h3⟩
theorem WK.cell {b:Nat}{W W':World}(K:WK b W W'){g o:Nat}(hg:g<W.heap.size)(hn:g≠b)(hr:¬ybV W b g):W'.cell? ⟨g,o,none⟩=W.cell? ⟨g,o,none⟩:=
 K.1.cell (p:=⟨g,o,none⟩) hg (fun e=>e.elim hn hr)
theorem WB.stored {W w':World}{b:Nat}{l l0:List UInt8}{a a1:Option Addr}{cap q1 n:Nat}(hn:n=l.length)(h1:W.heap[b]? =some (.cells #[.slice a l0.length cap] 131 (0,0)))(h3:(Value.slice a l0.length cap).ownBlock≠some b)
  (hr:RowAt w' 5 (.slice a1 n q1) l)(K:Keeps (fun j=>(Value.slice a l0.length cap).ownBlock=some j) W w')(hf:∀g,(Value.slice a1 n q1).ownBlock=some g→(Value.slice a l0.length cap).ownBlock=some g∨W.heap.size≤g):
  WB (w'.setCell ⟨b,0,none⟩ (.slice a1 n q1)) b l∧WK b W (w'.setCell ⟨b,0,none⟩ (.slice a1 n q1)):=by
 subst hn;have hb0:=zlt h1;have hb:w'.heap[b]? =some (.cells #[.slice a l0.length cap] 131 (0,0)):=(K.block b hb0 h3).trans h1;have hb2:(w'.setCell ⟨b,0,none⟩ (.slice a1 l.length q1)).heap[b]? =some (.cells #[.slice a1 l.length q1] 131 (0,0)):=by simp[World.setCell,zni,hb]
 have hne:(Value.slice a1 l.length q1).ownBlock≠some b:=fun e=>by
  rcases hf b e with h|h
  ·exact h3 h
  ·omega
 refine⟨⟨a1,q1,hb2,hr.keep (Keeps.setCell (S:=fun j=>j=b) (p:=⟨b,0,none⟩) (Keeps.refl _ _) (.inl rfl) _) (fun g hg e=>hne (e▸hg)),hne⟩,?_,fun j hj=> ?_⟩
 ·exact(K.mono (fun j _ e=>.inr ⟨_,h1,e⟩)).setCell (p:=⟨b,0,none⟩) (.inl (.inl rfl)) _
 ·obtain⟨v,h4,h5⟩:=hj
  rw[hb2]at h4;cases h4;rcases hf j h5 with h|h
  ·exact .inl ⟨_,h1,h⟩
  ·exact .inr h
theorem ynh:(Tryz.prog.info? 5).map (fun i=>(i.zero,i.size,i.bytes))=some (some (.int .u8 0),1,1):=by kernel_rfl
theorem ylR {W:World}{ops:Array Oper}{rest:List Oper}{o:Oper}{a:Act}{Q:Exit→Act→World→Prop}(hg:o.guard=none)(s x:Operand)
  (hop:o.op=Op.call {callee:=Callee.builtin Builtin.append,args:=#[s,x],argTypes:=#[55,9]})
  {l:List UInt8}{v:Value}(ho:RowAt W 5 v l)(hs:a.eval s=v)
  (ys:ByteArray)(hx:a.eval x= .string ys)(hl:l.length+ys.size≤1099511627776)
  (hK:∀a1 q1 w',RowAt w' 5 (.slice a1 (l.length+ys.size) q1) (l++ys.data.toList)→Keeps (fun j=>v.ownBlock=some j) W w'→(∀g,(Value.slice a1 (l.length+ys.size) q1).ownBlock=some g→v.ownBlock=some g∨W.heap.size≤g)→wpList Tryz.prog ops Q rest (a.put o.dst (.slice a1 (l.length+ys.size) q1)) w'):wpList Tryz.prog ops Q (o::rest) a W:=
 wpList_plain hg fun _ hk=>by
  obtain⟨v',w',hr,hr1,hk1,hf1⟩:=yeo (P:=Tryz.prog) 55 9 o.type 5 Tryz.underlying55 Tryz.underlying9 ynh ho ys hl;obtain⟨a1,q1,rfl⟩:=hr1.slice;have e2:(l++ys.data.toList).length=l.length+ys.size:=by simp
  rw[e2]at hr hr1 hf1;unfold Oper.wp execOp;simp only[hop,resolve,invoke,builtin,Sem.run_bind,Sem.run_pure,Result.andThen_ok,List.map_toArray,List.map_cons,List.map_nil,hs,hx,hr];exact hk _ _ (hK a1 q1 w' hr1 hk1 hf1)
theorem ygb {W:World}{ops:Array Oper}{rest:List Oper}{o:Oper}{a:Act}{Q:Exit→Act→World→Prop}(hg:o.guard=none)(s x:Operand)
  (hop:o.op=Op.call {callee:=Callee.builtin Builtin.append,args:=#[s,x],argTypes:=#[55,55]})
  {l:List UInt8}{v:Value}(ho:RowAt W 5 v l)(hs:a.eval s=v)
  (ad:Addr)(c:Nat)(ys:List UInt8)(hx:a.eval x= .slice (some ad) ys.length c)(hc:∀j u,(ys.flatMap Cells.enc)[j]? =some u→W.cell? (ad.add j)=some u)(hl:l.length+ys.length≤1099511627776)
  (hK:∀a1 q1 w',RowAt w' 5 (.slice a1 (l.length+ys.length) q1) (l++ys)→Keeps (fun j=>v.ownBlock=some j) W w'→(∀g,(Value.slice a1 (l.length+ys.length) q1).ownBlock=some g→v.ownBlock=some g∨W.heap.size≤g)→wpList Tryz.prog ops Q rest (a.put o.dst (.slice a1 (l.length+ys.length) q1)) w'):wpList Tryz.prog ops Q (o::rest) a W:=by
 obtain⟨i,hi,h1,h2,h3⟩:=info_parts ynh;refine ycz hg s x 55 hop 5 i (.int .u8 0) 1 Tryz.underlying55 hi h1 (by rw[h2];rfl) h3 rfl v l hs ho ad ys.length c ys hx rfl hc (by omega) (by unfold maxLen;omega) ?_;intro v1 w1 hr hg1 hf1;obtain⟨a1,q1,rfl⟩:=hr.slice;rw[znk]at*;exact hK a1 q1 w1 hr (Keeps.of_grown hg1 (fun k h=>h)) (fun g h=>(hf1 g h).imp id (fun h=>h.1))
def WPB (w:World)(b:Nat)(l:List UInt8)(e:Ending)(w':World):Prop:=e= .returned (.tuple #[])∧Hid (WB w' b l∧WK b w w')
theorem yiv {w:World}{nb:Nat}{ys:List UInt8}(hc:∀j u,(ys.map ydi)[j]? =some u→w.cell? ⟨nb,j,none⟩=some u):∀j u,(ys.flatMap Cells.enc)[j]? =some u→w.cell? ((⟨nb,0,none⟩:Addr).add j)=some u:=by
 have el:∀l:List UInt8,l.flatMap (Cells.enc (α:=UInt8))=l.map ydi:=fun l=>by
  induction l with
  |nil=>rfl
  |cons x r ih=>rw[List.flatMap_cons,ih];rfl
 intro j u hu;rw[Addr.add_lit,Nat.zero_add];exact hc j u (by rw[←el];exact hu)
set_option maxHeartbeats 4000000 in
theorem ydr (b:Nat)(l ys:List UInt8)(nb c:Nat)(w:World)(H:WB w b l)(hc:∀j u,(ys.map ydi)[j]? =some u→w.cell? ⟨nb,j,none⟩=some u)(hl:l.length+ys.length≤1099511627776):
  Calls Tryz.prog 105 #[.pointer (some ⟨b,0,none⟩),.slice (some ⟨nb,0,none⟩) ys.length c] w (WPB w b (l++ys)):=by
 obtain⟨a,cap,hb,ho,hne⟩:=H;have b0:=zlt hb;have c0:=zca hb 0 rfl;have f0:∀o,w.frozen? ⟨b,o,none⟩=false:=fun o=>zfr hb o;have HX:=zh4 hb ho hne (yiv hc);clear hb ho hc hne;go_enter Tryz.func105,Tryz.ntmps105;go_wp2_with (at_builtin;go_must (refine ygb rfl (.tmp 8) (.tmp 9) rfl HX.o.2.1 rfl ⟨nb,0,none⟩ c ys rfl HX.o.2.2.2 hl ?_);intro a1 q1 w' hr' hk' hf';have hb':w'.heap[b]? =some (.cells #[.slice a l.length cap] 131 (0,0)):=(hk'.block b b0 HX.o.2.2.1).trans HX.o.1;have c0:w'.cell? ⟨b,0,none⟩=some (.slice a l.length cap):=by{rw[zch hb'];rfl};have f0:∀o,w'.frozen? ⟨b,o,none⟩=false:=fun o=>zfr hb' o)
 go_end0
 exact⟨rfl,zhd (WB.stored (by simp) HX.o.1 HX.o.2.2.1 hr' hk' hf')⟩
theorem yme (b:Nat)(l:List UInt8)(w:World)(H:WB w b l):Calls Tryz.prog 100 #[.pointer (some ⟨b,0,none⟩)] w fun e w'=>e= .returned (.int .i64 l.length)∧w'=w:=by
 obtain⟨a,cap,hb,ho,hne⟩:=H;have c0:=zca hb 0 rfl;clear hb ho hne;go_enter Tryz.func100,Tryz.ntmps100;go_wp2_with fail;go_ret;exact⟨rfl,rfl⟩
theorem yn6 (m:Nat):bits BinOp.or IntKind.u8 ((m:Int)%256) 128=(((UInt8.ofNat (m%128+128)).toNat:Nat):Int):=by
 have h:∀k:Fin 256,bits BinOp.or IntKind.u8 (k.val:Int) 128=((k.val%128+128:Nat):Int):=by decide+kernel
 have h1:=h ⟨m%256,by omega⟩;rw[show((m:Int)%256)=((m%256:Nat):Int)from by omega,h1];rw[UInt8.toNat_ofNat_of_lt' (by show m%128+128<256;omega)];show((m%256%128+128:Nat):Int)=_;omega
theorem yna {m:Nat}(h:m<128):((m:Int)%256)=(((UInt8.ofNat m).toNat:Nat):Int):=by
 rw[UInt8.toNat_ofNat_of_lt' (by show m<256;omega)];omega
theorem yfD (wr:World)(x:Int)(y:UInt8)(t:TypeId)(h:x=(y.toNat:Int)):∀j u,([y].flatMap Cells.enc)[j]? =some u→(wr.alloc (.cells #[.int .u8 x] t)).cell? ((⟨wr.heap.size,0,none⟩:Addr).add j)=some u:=by
 intro j u hu;rw[Addr.add_lit,zch (znb wr _),Nat.zero_add];cases j with
 |zero=>rw[h];simpa[Cells.enc]using hu
 |succ j=>simp at hu;exact absurd hu (by simp[Cells.enc])
def N1 (w:World)(b:Nat)(l:List UInt8)(n nb:Nat)(gk:Nat)(v8:Value)(wr:World):Prop:=
 (v8= .int .i64 0∧gk=1∧WB wr b l∧wr.cell? ⟨nb,0,none⟩=some (.int .u64 n)∧WK b w wr)∨(v8= .int .i64 1∧gk=0∧WB wr b (l++ybX n)∧WK b w wr)
def N2 (w:World)(b:Nat)(l:List UInt8)(n:Nat)(gk:Nat)(v5:Value)(wr:World):Prop:=
 ∃(m:Nat) (l1:List UInt8),v5= .int .u64 m∧gk=m∧m<18446744073709551616∧WB wr b l1∧l1++ybX m=l++ybX n∧WK b w wr
set_option maxHeartbeats 4000000 in
theorem ygC (b:Nat)(l:List UInt8)(n nb c:Nat)(w:World)(H:WB w b l)(hc:w.cell? ⟨nb,0,none⟩=some (.int .u64 n))(hn:n<18446744073709551616)(hl:l.length+12≤1099511627776):
  Calls Tryz.prog 103 #[.pointer (some ⟨b,0,none⟩),.slice (some ⟨nb,0,none⟩) 1 c] w (WPB w b (l++ybX n)):=by
 have HH:=zh3 H hc hn;clear H hc hn;go_enter Tryz.func103,Tryz.ntmps103;go_wp2_with fail;go_loopg [8] (1) (fun gk v8 wr=>N1 w b l n nb gk v8 wr)
 case atStart=>exact .inl ⟨rfl,rfl,HH.o.1,HH.o.2.1,WK.refl _ _⟩
 case round=>
  rcases hrel with⟨rfl,hgk,hW,hc,hB⟩|⟨rfl,hgk,hW,hB⟩
  ·have HW:=zh3 hW hB hgk
   obtain⟨wo,rfl⟩:∃wo:World,wo=wr:=⟨_,rfl⟩;clear hW hB hgk;go_wp2_with fail;go_loopg [5] (n) (fun gk v5 wr=>N2 w b l n gk v5 wr)
   case atStart=>exact⟨n,l,rfl,rfl,HH.o.2.2,HW.o.1,rfl,HW.o.2.1⟩
   case round=>
    clear hc;obtain⟨m,l1,rfl,hgk,hm,⟨a,cap,hb,ho,hne⟩,he,hB⟩:=hrel;have b0:=zlt hb;have c0:=zca hb 0 rfl;have f0:∀o,wr.frozen? ⟨b,o,none⟩=false:=fun o=>zfr hb o;have HX:=zh6 hb ho hne hB hm hgk;by_cases h128:128≤m
    ·have e1:(128:Int)≤m:=by omega
     rw[yhu h128 hm]at he;have HE:=zhd he;clear hb ho hne hB he hgk hm;have HL:=zhd (show l1.length+[UInt8.ofNat (m%128+128)].length≤1099511627776 from by
      have h:=congrArg List.length HE.o;have:=ybu n;simp at h⊢;omega)
     go_wp2_with (at_builtin;go_must (refine ygb rfl (.tmp 18) (.tmp 22) rfl (HX.o.2.1.alloc _) rfl ⟨wr.heap.size,0,none⟩ 1 [UInt8.ofNat (m%128+128)] rfl (yfD _ _ _ _ (yn6 m)) HL.o ?_);intro a1 q1 w' hr' hk' hf';have hb':w'.heap[b]? =some (.cells #[.slice a l1.length cap] 131 (0,0)):=(hk'.block b (by simp;omega) HX.o.2.2.1).trans ((zne _ _ _ b0).trans HX.o.1);have c0:w'.cell? ⟨b,0,none⟩=some (.slice a l1.length cap):=by{rw[zch hb'];rfl};have f0:∀o,w'.frozen? ⟨b,o,none⟩=false:=fun o=>zfr hb' o);have S:=WB.stored (by simp) ((zne _ _ _ b0).trans HX.o.1) HX.o.2.2.1 hr' hk' hf';have SB:=HX.o.2.2.2.1.trans ((WK.ext b0 ((znv _ _).alloc (znc _) (.cells #[.int .u8 (bits BinOp.or IntKind.u8 ((m:Int)%256) 128)] 5))).trans S.2);go_roundg (m/128)
     case measure=>have:=HX.o.2.2.2.2.2;omega
     case rel=>exact⟨m/128,l1++[UInt8.ofNat (m%128+128)],by simp,rfl,(by have:=HX.o.2.2.2.2.1;omega),S.1,(by rw[List.append_assoc];exact HE.o),SB⟩
    ·have e1:¬(128:Int)≤m:=by omega
     rw[yeI (by omega)]at he;have HE:=zhd he;clear hb ho hne hB he hgk hm;have HL:=zhd (show l1.length+[UInt8.ofNat m].length≤1099511627776 from by
      have h:=congrArg List.length HE.o;have:=ybu n;simp at h⊢;omega)
     have HM:=zhd (show(m:Int)=(((UInt8.ofNat m).toNat:Nat):Int)from by have:=yna (m:=m) (by omega);omega);go_wp2_with (at_builtin;go_must (refine ygb rfl (.tmp 32) (.tmp 35) rfl (HX.o.2.1.alloc _) rfl ⟨wr.heap.size,0,none⟩ 1 [UInt8.ofNat m] rfl (yfD _ _ _ _ HM.o) HL.o ?_);intro a1 q1 w' hr' hk' hf';have hb':w'.heap[b]? =some (.cells #[.slice a l1.length cap] 131 (0,0)):=(hk'.block b (by simp;omega) HX.o.2.2.1).trans ((zne _ _ _ b0).trans HX.o.1);have c0:w'.cell? ⟨b,0,none⟩=some (.slice a l1.length cap):=by{rw[zch hb'];rfl};have f0:∀o,w'.frozen? ⟨b,o,none⟩=false:=fun o=>zfr hb' o);have S:=WB.stored (by simp) ((zne _ _ _ b0).trans HX.o.1) HX.o.2.2.1 hr' hk' hf';have SB:=HX.o.2.2.2.1.trans ((WK.ext b0 ((znv _ _).alloc (znc _) (.cells #[.int .u8 (m:Int)] 5))).trans S.2);rw[HE.o]at S;go_roundg (0)
     case measure=>have:=HW.o.2.2;omega
     case rel=>exact .inr ⟨rfl,rfl,S.1,SB⟩
  ·have HW:=zh2 hW hB
   clear hW hB;go_wp2_with fail
   go_end0
   exact⟨rfl,HW⟩
theorem yga (x:Int):IntKind.u64.wrap x=x%18446744073709551616:=by
 simp[IntKind.wrap,IntKind.bits,IntKind.signed]
theorem yks (a:Nat)(h:a<18446744073709551616):a^^^18446744073709551615=18446744073709551615 - a:=by
 have h1:(BitVec.ofNat 64 a).toNat=a:=by simp;omega
 have h2:=BitVec.toNat_not (x:=BitVec.ofNat 64 a);rw[BitVec.not_def,BitVec.toNat_xor,h1,BitVec.toNat_allOnes,Nat.xor_comm]at h2;exact h2
theorem ylP (n:Int)(h0: -9223372036854775808≤n)(h1:n≤9223372036854775807)(w:World):Calls Tryz.prog 104 #[.int .i64 n] w fun e w'=>e= .returned (.int .u64 (zigL n))∧w'=w:=by
 by_cases hn:0≤n
 ·have hx:bits BinOp.xor IntKind.u64 (n*2) (n/9223372036854775808)=zigL n:=by
   obtain⟨m,rfl⟩:=Int.eq_ofNat_of_zero_le hn;have e1:((m:Int)/9223372036854775808)=((0:Nat):Int):=by omega
   have e2:((m:Int)*2)=((m*2:Nat):Int):=by omega
   rw[e1,e2,bits_xor_u64_nat _ _ (by omega) (by omega),Nat.xor_zero];unfold zigL;rw[if_pos hn];omega
  have HX:=zhd hx;clear hx;go_enter Tryz.func104,Tryz.ntmps104;go_wp2_with fail;go_ret;exact⟨by rw[HX.o];rfl,rfl⟩
 ·have hx:bits BinOp.xor IntKind.u64 (IntKind.u64.wrap (IntKind.u64.wrap n*2)) (IntKind.u64.wrap (n/9223372036854775808))=zigL n:=by
   have e1:IntKind.u64.wrap (IntKind.u64.wrap n*2)=((2*n+18446744073709551616).toNat:Int):=by
    rw[yga,yga];omega
   have e2:IntKind.u64.wrap (n/9223372036854775808)=((18446744073709551615:Nat):Int):=by
    rw[yga];omega
   rw[e1,e2,bits_xor_u64_nat _ _ (by omega) (by omega),yks _ (by omega)];unfold zigL;rw[if_neg hn];omega
  have HX:=zhd hx;clear hx;go_enter Tryz.func104,Tryz.ntmps104;go_wp2_with fail;go_ret;exact⟨by rw[HX.o];rfl,rfl⟩
set_option maxHeartbeats 4000000 in
theorem yiW (b:Nat)(l:List UInt8)(s:ByteArray)(w:World)(H:WB w b l)(hl:l.length+s.size+12≤1099511627776):
  Calls Tryz.prog 62 #[.pointer (some ⟨b,0,none⟩),.string s] w (WPB w b (l++textB s.data.toList)):=by
 have b0:=H.lt;have HH:=zhd H;clear H;have NU:=zhd (ygC b l s.size w.heap.size 1 (w.alloc (.cells #[.int .u64 s.size] 188)) (HH.o.alloc _).1 (by rw[zch (znb _ _)];rfl) (by omega) (by omega));go_enter Tryz.func62,Tryz.ntmps62;go_wp2_with fail;refine NU.o.mono ?_;rintro e w1 ⟨rfl,H1⟩;obtain⟨a,cap,hb,ho,hne⟩:=H1.o.1;have b1:=zlt hb;have c0:=zca hb 0 rfl;have f0:∀o,w1.frozen? ⟨b,o,none⟩=false:=fun o=>zfr hb o;have HL:=zhd (show(l++ybX s.size).length+s.size≤1099511627776 from by have:=ybu s.size;simp;omega);have HX:=zh4 hb ho hne H1.o.2;clear hb ho NU hne;generalize hl1:l++ybX s.size=l1 at*;have HN:=zhd hl1;clear hl1;go_wp2_with (at_builtin;go_must (refine ylR rfl (.tmp 14) (.tmp 15) rfl HX.o.2.1 rfl s rfl HL.o ?_);intro a1 q1 w' hr' hk' hf';have hb':w'.heap[b]? =some (.cells #[.slice a l1.length cap] 131 (0,0)):=(hk'.block b b1 HX.o.2.2.1).trans HX.o.1;have c0:w'.cell? ⟨b,0,none⟩=some (.slice a l1.length cap):=by{rw[zch hb'];rfl};have f0:∀o,w'.frozen? ⟨b,o,none⟩=false:=fun o=>zfr hb' o);have S:=WB.stored (by simp) HX.o.1 HX.o.2.2.1 hr' hk' hf'
 go_end0
 have e1:l++textB s.data.toList=l1++s.data.toList:=by
  unfold textB;rw[←HN.o,List.append_assoc];simp
 exact⟨rfl,zhd ⟨by rw[e1];exact S.1,((HH.o.alloc _).2.trans HX.o.2.2.2).trans S.2⟩⟩
def I1 (w:World)(b:Nat)(l:List UInt8)(n:Int)(nb:Nat)(gk:Nat)(v8:Value)(wr:World):Prop:=
 (v8= .int .i64 0∧gk=1∧WB wr b l∧wr.cell? ⟨nb,0,none⟩=some (.int .i64 n)∧WK b w wr)∨(v8= .int .i64 1∧gk=0∧WB wr b (l++ybX (zigL n))∧WK b w wr)
theorem yiV {n:Int}(h0: -9223372036854775808≤n)(h1:n≤9223372036854775807):zigL n<18446744073709551616:=by
 unfold zigL;split<;>omega
set_option maxHeartbeats 4000000 in
theorem yml (b:Nat)(l:List UInt8)(n:Int)(nb c:Nat)(w:World)(H:WB w b l)(hc:w.cell? ⟨nb,0,none⟩=some (.int .i64 n))(h0: -9223372036854775808≤n)(h1:n≤9223372036854775807)(hl:l.length+12≤1099511627776):
  Calls Tryz.prog 59 #[.pointer (some ⟨b,0,none⟩),.slice (some ⟨nb,0,none⟩) 1 c] w (WPB w b (l++ybX (zigL n))):=by
 have HH:=zh4 H hc h0 h1;clear H hc h0 h1;go_enter Tryz.func59,Tryz.ntmps59;go_wp2_with fail;go_loopg [8] (1) (fun gk v8 wr=>I1 w b l n nb gk v8 wr)
 case atStart=>exact .inl ⟨rfl,rfl,HH.o.1,HH.o.2.1,WK.refl _ _⟩
 case round=>
  rcases hrel with⟨rfl,hgk,hW,hc,hB⟩|⟨rfl,hgk,hW,hB⟩
  ·have b1:=hW.lt
   have HW:=zh3 hW hB hgk;have NU:=zhd (ygC b l (zigL n) wr.heap.size 1 (wr.alloc (.cells #[.int .u64 (zigL n)] 188)) (HW.o.1.alloc _).1 (by rw[zch (znb _ _)];rfl) (yiV HH.o.2.2.1 HH.o.2.2.2) hl);have ZI:=zhd (ylP n HH.o.2.2.1 HH.o.2.2.2 wr);clear hW hB hgk;go_wp2_with fail;refine ZI.o.mono ?_;rintro e w2 ⟨rfl,rfl⟩;go_wp2_with fail;refine NU.o.mono ?_;rintro e w3 ⟨rfl,H3⟩;clear hc;go_wp2_with fail;go_roundg (0)
   case measure=>have:=HW.o.2.2;omega
   case rel=>exact .inr ⟨rfl,rfl,H3.o.1,(HW.o.2.1.trans (HW.o.1.alloc _).2).trans H3.o.2⟩
  ·have HW:=zh2 hW hB
   clear hW hB;go_wp2_with fail
   go_end0
   exact⟨rfl,HW⟩
end Go.Proofs.YtpagmlndgblhhaaGreatDoor
