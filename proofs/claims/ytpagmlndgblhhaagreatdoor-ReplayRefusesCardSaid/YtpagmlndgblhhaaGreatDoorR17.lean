/- Parts of the proof: what the functions and the plain laws give that later parts lean on. Conditions: none beyond those that each theorem names. -/
import Derived.Test.YtpagmlndgblhhaaGreatDoorR16
set_option maxRecDepth 100000
set_option maxHeartbeats 8000000
namespace Go.Proofs.YtpagmlndgblhhaaGreatDoor
open Go.RowKit Go.Own Go.Own.MapTy Go.Va Go.Sort
open Go.Own.Cells (sz enc)
theorem yb5 {w:World}{b o:Nat}{u:Value}(h:w.cell? ⟨b,o,none⟩=some u):w.setCell ⟨b,o,none⟩ u=w:=by
 simp only[World.setCell]
 congr 1
 refine Array.ext_getElem? fun i=> ?_;simp only[zni];by_cases e:b=i
 ·subst e
  rw[if_pos rfl];unfold World.cell? at h;cases hb:w.heap[b]? with
  |none=>rfl
  |some ob=>
   rw[hb]at h;cases ob with
   |cells cs t fr=>
    simp at h;simp;refine Array.ext_getElem? fun j=> ?_;rw[Array.getElem?_setIfInBounds];split
    ·rename_i e2
     subst e2;split
     ·exact h.symm
     ·rename_i h3;rw[Array.getElem?_eq_none (by omega)]
    ·rfl
   |_=>simp at h
 ·rw[if_neg e]
theorem RowAt.again {α:Type}[Cells α]{w:World}{e:TypeId}{xs:List α}{g off n cap:Nat}{i:Nat}{x y:α}(h:RowAt w e (.slice (some ⟨g,off,none⟩) n cap) (xs.set i x))(hi:i<xs.length){j:Nat}{u:Value}(hj:j<sz α)(hy:enc y=(enc x).set j u):
  RowAt (w.setCell ⟨g,off+i*sz α+j,none⟩ u) e (.slice (some ⟨g,off,none⟩) n cap) (xs.set i y):=by
 have:=RowAt.setOne h (i:=i) (x:=x) (y:=y) (by rw[List.getElem?_set_self hi]) hj hy;rw[List.set_set,←zmm]at this;exact this
theorem yey {w:World}{e:TypeId}{xs:List TC}{g off n cap:Nat}{i:Nat}{x:TC}(h:RowAt w e (.slice (some ⟨g,off,none⟩) n cap) xs)(hx:xs[i]? =some x)(how:Int)(c:VC):
  RowAt ((((((w.setCell ⟨g,off+i*7+1,none⟩ (.bool true)).setCell ⟨g,off+i*7+6,none⟩ (.int .i64 how)).setCell ⟨g,off+i*7+2,none⟩ (.int .i64 c.kind)).setCell ⟨g,off+i*7+3,none⟩ (.int .i64 c.n)).setCell ⟨g,off+i*7+4,none⟩ (.string c.s)).setCell ⟨g,off+i*7+5,none⟩ (.slice c.la c.ln c.lc)) e (.slice (some ⟨g,off,none⟩) n cap) (xs.set i ⟨x.id,true,c,how⟩):=by
 have hi:=(zge hx).1;have h0:xs.set i x=xs:=by
  have:=(zge hx).2;rw[←this,List.set_getElem_self]
 rw[←h0]at h;have h1:=RowAt.again h hi (j:=1) (u:=.bool true) (y:=⟨x.id,true,x.v,x.how⟩) (by decide) rfl;have h2:=RowAt.again h1 hi (j:=6) (u:=.int .i64 how) (y:=⟨x.id,true,x.v,how⟩) (by decide) rfl;have h3:=RowAt.again h2 hi (j:=2) (u:=.int .i64 c.kind) (y:=⟨x.id,true,⟨c.kind,x.v.n,x.v.s,x.v.la,x.v.ln,x.v.lc⟩,how⟩) (by decide) rfl;have h4:=RowAt.again h3 hi (j:=3) (u:=.int .i64 c.n) (y:=⟨x.id,true,⟨c.kind,c.n,x.v.s,x.v.la,x.v.ln,x.v.lc⟩,how⟩) (by decide) rfl;have h5:=RowAt.again h4 hi (j:=4) (u:=.string c.s) (y:=⟨x.id,true,⟨c.kind,c.n,c.s,x.v.la,x.v.ln,x.v.lc⟩,how⟩) (by decide) rfl;exact RowAt.again h5 hi (j:=5) (u:=.slice c.la c.ln c.lc) (y:=⟨x.id,true,c,how⟩) (by decide) rfl
theorem yeV (w':World)(g o1 o2 o3 o4 o5 o6:Nat)(v1 v2 v3 v4 v5 v6:Value):
  Keeps (fun j=>j=g) w' ((((((w'.setCell ⟨g,o1,none⟩ v1).setCell ⟨g,o2,none⟩ v2).setCell ⟨g,o3,none⟩ v3).setCell ⟨g,o4,none⟩ v4).setCell ⟨g,o5,none⟩ v5).setCell ⟨g,o6,none⟩ v6):=by
 have k0:Keeps (fun j=>j=g) w' w':=Keeps.refl _ _;have k1:=Keeps.setCell (p:=⟨g,o1,none⟩) k0 (.inl rfl) v1;have k2:=Keeps.setCell (p:=⟨g,o2,none⟩) k1 (.inl rfl) v2;have k3:=Keeps.setCell (p:=⟨g,o3,none⟩) k2 (.inl rfl) v3;have k4:=Keeps.setCell (p:=⟨g,o4,none⟩) k3 (.inl rfl) v4;have k5:=Keeps.setCell (p:=⟨g,o5,none⟩) k4 (.inl rfl) v5;exact Keeps.setCell (p:=⟨g,o6,none⟩) k5 (.inl rfl) v6
theorem yd3 {id how:Int}{v:Val}:∀{l:List Th},yat id l=none→ycw id how v l=l
 |[],_=>rfl
 |x::r,h=>by
  rw[yat]at h;split at h
  ·cases h
  ·rename_i hne
   rw[ycw,if_neg hne];cases hf:yat id r with
   |none=>rw[yd3 hf]
   |some j=>rw[hf]at h;cases h
theorem ygP {id how:Int}{v:Val}:∀{l:List Th} {i:Nat} {x:Th},yat id l=some i→l[i]? =some x→ycw id how v l=bif x.over then l else l.set i ⟨x.id,true,yab v,how⟩
 |[],i,x,h,_=>by cases h
 |y::r,i,x,h,hx=>by
  rw[yat]at h;split at h
  ·rename_i he
   cases h;simp at hx;subst hx;rw[ycw,if_pos he];rfl
  ·rename_i hne
   rw[ycw,if_neg hne];cases hf:yat id r with
   |none=>rw[hf]at h;cases h
   |some j=>
    rw[hf]at h;cases h;rw[ygP hf (by simpa using hx)];cases x.over<;>rfl
def yoH (W:World)(nm:ByteArray)(l:List Lt)(gk:Nat)(v12:Value)(wr:World):Prop:=
 ∃i:Nat,v12= .int .i64 i∧i≤l.length∧gk=l.length - i∧yap nm l=(yap nm (l.drop i)).map (· +i)∧Below W.heap.size W wr
theorem ya9
  {Z:Nat→Prop}(b:Nat)(v:MV)(p:Img)(s:MS)(W:World)(M:MX TT Z W b v p s)
  (nm:ByteArray)(r:Int)(hr:ltI nm s.letters=r):
  Calls Tryz.prog 161 #[.pointer (some ⟨b,0,none⟩),.string nm] W (fun e w'=>e= .returned (.int .i64 r)∧Below W.heap.size W w'):=by
 obtain⟨ss,ic,ps,inp,ts,as_,ls,ms⟩:=v;obtain⟨a,cap,rfl⟩:∃a cap,ls= .slice a s.letters.length cap:=M.lts.slice;have hb:=zlt M.h;have c1:W.cell? ⟨b,16,none⟩=some (.slice a s.letters.length cap):=M.cell (k:=16) rfl;have hlm:s.letters.length≤maxLen:=by
  obtain⟨cs,h1,h2⟩:=M.lts.cells;rw[←h2.1];exact h1.length_le
 have HR:=zh2 M.lts hr;clear M hr;go_enter Tryz.func161,Tryz.ntmps161;go_wp2_with fail;go_loopg [12] (s.letters.length) (fun gk v12 wr=>yoH W nm s.letters gk v12 wr)
 case atStart=>exact⟨0,rfl,znq _,rfl,yhy,znv _ _⟩
 case round=>
  obtain⟨i,rfl,hi,hgk,hf,hB⟩:=hrel;by_cases hin:i<s.letters.length
  ·obtain⟨x,hx⟩:=yad hin
   obtain⟨g,off,⟨cn,⟨ck,cnn,cs,la,ln,lc⟩⟩,rfl,hg,hc,_,hcs⟩:=(HR.o.1.below hB).at_ hx;have m0:=hcs 0 _ rfl;have m1:=hcs 1 _ rfl;have m2:=hcs 2 _ rfl;have m3:=hcs 3 _ rfl;have m4:=hcs 4 _ rfl;have hci:cn=x.name:=hc.name;rw[hci]at m0;simp only[sz,Nat.add_zero]at m0 m1 m2 m3 m4;have hin':(i:Int)<s.letters.length:=by omega
   have HM:=zhd (show s.letters.length - (i+1)<gk from by omega);have HW:=zhd (show wrap64 ((i:Int)+1)=(i:Int)+1 from by unfold maxLen at hlm;unfold wrap64;omega);have hi1:i+1≤s.letters.length:=by omega
   have HB:=zhd hB;by_cases he:x.name=nm
   ·have heb:(x.name.toList==nm.toList)=true:=by rw[he];simp
    have hr:=HR.o.2;unfold ltI at hr;rw[ygN hx he hf]at hr;have hr:(i:Int)=r:=hr;subst hr;clear hf hcs hc hci hgk he hB;go_wp2_with fail;go_ret;exact⟨rfl,HB.o.alloc HB.o.size _⟩
   ·have heb:(x.name.toList==nm.toList)=false:=by
     rw[zna,zml,zml];exact fun e=>he (ByteArray.ext (Array.toList_inj.1 e))
    have HF:=zhd (ygM hx he hf);clear hf hcs hc hci hgk he hB;go_wp2_with fail;go_roundg (s.letters.length - (i+1))
    case measure=>exact HM.o
    case rel=>exact⟨i+1,by rw[HW.o];simp,hi1,rfl,HF.o,HB.o.alloc HB.o.size _⟩
  ·have hin':¬(i:Int)<s.letters.length:=by omega
   have hr:=HR.o.2;unfold ltI at hr;rw[hf,zns (by omega)]at hr;have hr:(-1:Int)=r:=hr;subst hr;clear hf hgk;go_wp2_with fail;go_ret;exact⟨rfl,hB⟩
theorem ye3 {T:MT}{Z S:Nat→Prop}{W W':World}{b N:Nat}{v:MV}{p:Img}{s:MS}(M:MX T (fun j=>Z j∧j<N) W b v p s)(hS:∀j,S j→N≤j)(hO:∀j,S j→¬MO v b j)(K:Keeps S W W'):MX T Z W' b v p s:=
 (M.far K hO (fun j h e=>by have:=hS j h;have:=e.2;omega)).monoZ (fun _ h _=>h.1)
theorem yb9 (w':World)(b o1 o2 o3 o4:Nat)(v1 v2 v3 v4:Value):Keeps (fun j=>j=b) w' ((((w'.setCell ⟨b,o1,none⟩ v1).setCell ⟨b,o2,none⟩ v2).setCell ⟨b,o3,none⟩ v3).setCell ⟨b,o4,none⟩ v4):=by
 have k0:Keeps (fun j=>j=b) w' w':=Keeps.refl _ _;have k1:=Keeps.setCell (p:=⟨b,o1,none⟩) k0 (.inl rfl) v1;have k2:=Keeps.setCell (p:=⟨b,o2,none⟩) k1 (.inl rfl) v2;have k3:=Keeps.setCell (p:=⟨b,o3,none⟩) k2 (.inl rfl) v3;exact Keeps.setCell (p:=⟨b,o4,none⟩) k3 (.inl rfl) v4
theorem ye1
  {Z:Nat→Prop}(b:Nat)(v:MV)(p:Img)(s:MS)(W:World)(M:MX TT Z W b v p s)
  (i:Nat)(l:Lt)(hi:s.letters[i]? =some l)(hl:s.letters.length≤4294967296)(hZ:∀j,W.heap.size≤j→Z j):
  Calls Tryz.prog 162 #[.pointer (some ⟨b,0,none⟩),.int .i64 i] W (MPV Z W b v p (s.letV i) (s.openL i)):=by
 obtain⟨ss,ic,ps,inp,ts,as_,ls,ms⟩:=v;obtain⟨a,cap,rfl⟩:∃a cap,ls= .slice a s.letters.length cap:=M.lts.slice;obtain⟨ks,hR,hP⟩:=M.lts.cells;obtain⟨⟨cn,⟨ck,cnn,cs,la,ln,lc⟩⟩,hc,hC⟩:=hP.get hi;obtain⟨g,off,rfl,hg⟩:=hR.addr hc;have b0:=zlt M.h;have cc:=fun(j:Nat) (hj:j<5)=>hR.cell hc (j:=j) hj;have m1:W.cell? ⟨g,off+i*5+1,none⟩=some (.int .i64 ck):=by rw[zmm];exact cc 1 (by decide)
 have m2:W.cell? ⟨g,off+i*5+2,none⟩=some (.int .i64 cnn):=by rw[zmm];exact cc 2 (by decide)
 have m3:W.cell? ⟨g,off+i*5+3,none⟩=some (.string cs):=by rw[zmm];exact cc 3 (by decide)
 have m4:W.cell? ⟨g,off+i*5+4,none⟩=some (.slice la ln lc):=by rw[zmm];exact cc 4 (by decide)
 have hil:i<s.letters.length:=(zge hi).1;have hkl:ks.length=s.letters.length:=hP.1;have hw1:IntKind.i64.wrap ((i:Int)+1)=(i:Int)+1:=zmk _ (by omega);have hw2:wrap64 ((i:Int)+1)=(i:Int)+1:=by unfold wrap64;omega
 have hix:(i:Int)<s.letters.length:=by omega
 obtain⟨sl1,r1⟩:=yj7 yj2 hR (k:=i) (by omega);obtain⟨ad2,sl2,r2⟩:=yfd yj2 hR (k:=i+1) (by omega);rw[show((i+1:Nat):Int)=(i:Int)+1 from by omega]at sl2;have c1:W.cell? ⟨b,16,none⟩=some (.slice (some ⟨g,off,none⟩) s.letters.length cap):=M.cell (k:=16) rfl;have f0:∀o,W.frozen? ⟨b,o,none⟩=false:=fun o=>M.frozen o;obtain⟨wr,hwr⟩:∃wr,wr=(W.alloc (.cells #[.int .i64 0,.int .i64 0,.string ⟨#[]⟩,.slice none 0 0] 38)).alloc (.cells #[.int .i64 ck,.int .i64 cnn,.string cs,.slice la ln lc] 38):=⟨_,rfl⟩;have hv:s.letV i=l.v:=by unfold MS.letV;rw[hi];rfl
 have HX:=zh8 M hR hP hC.v hZ r1 r2 (zai hv hkl);clear M hR hP hC hZ r1 r2 cc hc hi hv hkl;go_enter Tryz.func162,Tryz.ntmps162;go_wp2_with fail;rw[←hwr];have B0:Below W.heap.size W wr:=by rw[hwr];exact((znv W.heap.size W).alloc (znc _) _).alloc (by simp) _
 have hb0:wr.heap[W.heap.size]? =some (.cells #[.int .i64 0,.int .i64 0,.string ⟨#[]⟩,.slice none 0 0] 38 (0,0)):=by rw[hwr];exact yaE
 have hb1:wr.heap[W.heap.size+1]? =some (.cells #[.int .i64 ck,.int .i64 cnn,.string cs,.slice la ln lc] 38 (0,0)):=by rw[hwr];exact yar
 have HB:=zh4 B0 hb0 hb1 (B0.block b b0);have l1:W.heap.size<wr.heap.size:=zlt hb0;have l2:W.heap.size+1<wr.heap.size:=zlt hb1;have b1:b<wr.heap.size:=by omega
 have d1:wr.cell? ⟨b,16,none⟩=some (.slice (some ⟨g,off,none⟩) s.letters.length cap):=(B0.cell (p:=⟨b,16,none⟩) b0).trans c1;have df:∀o,wr.frozen? ⟨b,o,none⟩=false:=fun o=>(B0.frozen (p:=⟨b,o,none⟩) b0).trans (f0 o);have HL:=zhd (show(([]:List LC).length+(ks.take i).length)*72≤140737488355328∧([]:List LC).length+(ks.take i).length≤maxLen∧([]:List LC).length+(ks.take i).length=i∧((ks.take i).length+(ks.drop (i+1)).length)*72≤140737488355328∧(ks.take i).length+(ks.drop (i+1)).length≤maxLen∧(ks.take i).length+(ks.drop (i+1)).length=s.letters.length - 1 from by have:=HX.o.2.2.2.2.2.2.2.2;unfold maxLen;simp;omega);clear hwr c1 f0 B0 hb0 hb1 m1 m2 m3 m4;go_region_law (first
  |(refine yaA (α:=LC) (o:=⟨some 22,_,_,_,_,_⟩) yj2 (by rfl) (.tmp 15) (.tmp 21) (by rfl) (by rfl) (by rfl) (RowAt.none_ (znb _ _)) (((HX.o.2.2.2.2.2.1.below HB.o.1).drew).alloc _) HL.o.1 HL.o.2.1 i HL.o.2.2.1 ?_;intro a5 q5 w5 hr5 hk5 hf5;rw[List.nil_append]at hr5;have P5:=ybm (((Keeps.refl (fun _=>False) wr).drew).alloc _) hk5 (yct (znc _)) hf5;have hbb:=P5.1.block b b1 (fun f=>f);have e1:w5.cell? ⟨b,16,none⟩=some (.slice (some ⟨g,off,none⟩) s.letters.length cap):=(znt (w:=wr) hbb).trans d1;have H5:=zh2 hr5 P5;have ef:∀o,w5.frozen? ⟨b,o,none⟩=false:=(fun o=>(znu (w:=wr) hbb).trans (df o));have eb:b<w5.heap.size:=znj b1 P5.1.size;clear hr5 hk5 hf5 P5 hbb)
  |(refine yaA (α:=LC) (o:=⟨some 30,_,_,_,_,_⟩) yj2 (by rfl) (.tmp 22) (.tmp 29) (by rfl) (by rfl) (by rfl) H5.o.1 ((HX.o.2.2.2.2.2.2.1.below HB.o.1).keep H5.o.2.1 (fun _ _ f=>f)) HL.o.2.2.2.1 HL.o.2.2.2.2.1 (s.letters.length - 1) HL.o.2.2.2.2.2 ?_;intro a6 q6 w6 hr6 hk6 hf6;have P6:=ybm H5.o.2.1 hk6 H5.o.2.2 hf6;have hbb:=P6.1.block b b1 (fun f=>f);have g1:w6.cell? ⟨b,16,none⟩=some (.slice (some ⟨g,off,none⟩) s.letters.length cap):=(znt (w:=wr) hbb).trans d1;have H6:=zh2 hr6 P6;have gf:∀o,w6.frozen? ⟨b,o,none⟩=false:=(fun o=>(znu (w:=wr) hbb).trans (df o));have gb:b<w6.heap.size:=znj b1 P6.1.size;clear hr6 hk6 hf6 P6 hbb))
 all_goals
  obtain⟨wz,hwz⟩:∃wz,wz=w6.setCell ⟨b,16,none⟩ (.slice a6 (s.letters.length - 1) q6):=⟨_,rfl⟩;have S:=HX.o.1.cut.putLts (v1:=.slice a6 (s.letters.length - 1) q6) (s.openL i) H6.o.1 ((HX.o.2.2.1.erase i).mono (fun g h l=>⟨h.1,h.2,l⟩)) (((zkb (S:=fun _=>False) HB.o.1).trans H6.o.2.1 (fun _ _ f=>f)).mono (fun _ _ f=>f.elim)) (fun g hg=>.inr (znf HB.o.1.size (H6.o.2.2 g hg))) rfl;have hz0:wz.heap[W.heap.size]? =some (.cells #[.int .i64 0,.int .i64 0,.string ⟨#[]⟩,.slice none 0 0] 38 (0,0)):=by
   rw[hwz,znn _ _ _ _ (fun e=>by have e:W.heap.size=b:=e;omega)];exact(H6.o.2.1.block _ l1 (fun f=>f)).trans HB.o.2.1
  have hz1:wz.heap[W.heap.size+1]? =some (.cells #[.int .i64 ck,.int .i64 cnn,.string cs,.slice la ln lc] 38 (0,0)):=by
   rw[hwz,znn _ _ _ _ (fun e=>by have e:W.heap.size+1=b:=e;omega)];exact(H6.o.2.1.block _ l2 (fun f=>f)).trans HB.o.2.2.1
  rw[←hwz]at S⊢;have HS:=zh2 S (fun g (hg:(Value.slice a6 (s.letters.length - 1) q6).ownBlock=some g)=>H6.o.2.2 g hg);have q0:=zca hz0 0 rfl;have q1:=zca hz0 1 rfl;have q2:=zca hz0 2 rfl;have q3:=zca hz0 3 rfl;have r0:=zca hz1 0 rfl;have r1:=zca hz1 1 rfl;have r2:=zca hz1 2 rfl;have r3:=zca hz1 3 rfl;have qf:∀o,wz.frozen? ⟨W.heap.size,o,none⟩=false:=fun o=>zfr hz0 o;have z1:=zlt hz0;have z2:=zlt hz1;clear S hwz hz0 hz1 e1 ef eb g1 gf gb d1 df;go_wp2_with fail;exact zng (v:=.agg #[.int .i64 ck,.int .i64 cnn,.string cs,.slice la ln lc]) (by simp only[results,Tryz.results162];go_simp) rfl ⟨_,⟨ck,cnn,cs,la,ln,lc⟩,rfl,zhd (by
   have K4:=yb9 wz W.heap.size 0 1 2 3 (.int .i64 ck) (.int .i64 cnn) (.string cs) (.slice la ln lc);have KM:=HS.o.1.2.late (K4.mono (fun j _ e=>Nat.le_of_eq e.symm));have MM:=ye3 HS.o.1.1 (S:=fun j=>j=W.heap.size) (fun j e=>Nat.le_of_eq e.symm) (fun j e h=>by
    rcases MO.turned (v:=⟨ss,ic,ps,inp,ts,as_,.slice (some ⟨g,off,none⟩) s.letters.length cap,ms⟩) (i0:=5) (fun i hi=>by
     match i with
     |0=>rfl
     |1=>rfl
     |2=>rfl
     |3=>rfl
     |4=>rfl
     |5=>exact absurd rfl hi
     |6=>rfl
     |_+7=>rfl) h with h|h
    ·have:=HX.o.1.lt h;have e:j=W.heap.size:=e;omega
    ·have:=HS.o.2 j h;have e:j=W.heap.size:=e;omega) K4
   rw[HX.o.2.2.2.2.2.2.2.1];exact⟨MM,KM,CF.step KM HX.o.2.2.2.1⟩)⟩
theorem yeD (w':World)(b o1 o2 o3 o4 o5 o6 o7:Nat)(v1 v2 v3 v4 v5 v6 v7:Value):Keeps (fun j=>j=b) w' (((((((w'.setCell ⟨b,o1,none⟩ v1).setCell ⟨b,o2,none⟩ v2).setCell ⟨b,o3,none⟩ v3).setCell ⟨b,o4,none⟩ v4).setCell ⟨b,o5,none⟩ v5).setCell ⟨b,o6,none⟩ v6).setCell ⟨b,o7,none⟩ v7):=Keeps.setCell (p:=⟨b,o7,none⟩) (yeV w' b o1 o2 o3 o4 o5 o6 v1 v2 v3 v4 v5 v6) (.inl rfl) v7
theorem TF.step {Z:Nat→Prop}{W w':World}{b:Nat}{v v':MV}{c:TC}{x:Th}(K:MK b v W v' w')(h:TF (MZ Z v b) W c x):TF (MZ Z v' b) w' c x:=⟨h.id,h.over,CF.step K h.v,h.how⟩
def MPT (Z:Nat→Prop)(W:World)(b:Nat)(v:MV)(p:Img)(x:Th)(s':MS)(e:Ending)(w':World):Prop:=∃(v':MV) (c:TC),e= .returned (.agg #[.int .i64 c.id,.bool c.over,.int .i64 c.v.kind,.int .i64 c.v.n,.string c.v.s,.slice c.v.la c.v.ln c.v.lc,.int .i64 c.how])∧Hid (MX TT Z w' b v' p s'∧MK b v W v' w'∧TF (MZ Z v' b) w' c x)
theorem ybU
  {Z:Nat→Prop}(b:Nat)(v:MV)(p:Img)(s:MS)(W:World)(M:MX TT Z W b v p s)
  (i:Nat)(l:Th)(hi:s.timers.list[i]? =some l)(hl:s.timers.list.length≤4294967296)(s':MS)(hs':s'={s with timers:=⟨s.timers.list.eraseIdx i,s.timers.next⟩})(hZ:∀j,W.heap.size≤j→Z j):
  Calls Tryz.prog 178 #[.pointer (some ⟨b,12,none⟩),.int .i64 i] W (MPT Z W b v p l s'):=by
 obtain⟨ss,ic,ps,inp,ts,as_,ls,ms⟩:=v;obtain⟨a,cap,rfl⟩:∃a cap,ts= .slice a s.timers.list.length cap:=M.tms.slice;obtain⟨ks,hR,hP⟩:=M.tms.cells;obtain⟨⟨tid,tov,⟨ck,cnn,cs,la,ln,lc⟩,thow⟩,hc,hC⟩:=hP.get hi;obtain⟨g,off,rfl,hg⟩:=hR.addr hc;have b0:=zlt M.h;have cc:=fun(j:Nat) (hj:j<7)=>hR.cell hc (j:=j) hj;have m0:W.cell? ⟨g,off+i*7,none⟩=some (.int .i64 tid):=cc 0 (by decide);have m1:W.cell? ⟨g,off+i*7+1,none⟩=some (.bool tov):=by rw[zmm];exact cc 1 (by decide)
 have m2:W.cell? ⟨g,off+i*7+2,none⟩=some (.int .i64 ck):=by rw[zmm];exact cc 2 (by decide)
 have m3:W.cell? ⟨g,off+i*7+3,none⟩=some (.int .i64 cnn):=by rw[zmm];exact cc 3 (by decide)
 have m4:W.cell? ⟨g,off+i*7+4,none⟩=some (.string cs):=by rw[zmm];exact cc 4 (by decide)
 have m5:W.cell? ⟨g,off+i*7+5,none⟩=some (.slice la ln lc):=by rw[zmm];exact cc 5 (by decide)
 have m6:W.cell? ⟨g,off+i*7+6,none⟩=some (.int .i64 thow):=by rw[zmm];exact cc 6 (by decide)
 have hil:i<s.timers.list.length:=(zge hi).1;have hkl:ks.length=s.timers.list.length:=hP.1;have hw1:IntKind.i64.wrap ((i:Int)+1)=(i:Int)+1:=zmk _ (by omega);have hw2:wrap64 ((i:Int)+1)=(i:Int)+1:=by unfold wrap64;omega
 have hix:(i:Int)<s.timers.list.length:=by omega
 obtain⟨sl1,r1⟩:=yj7 yeu hR (k:=i) (by omega);obtain⟨ad2,sl2,r2⟩:=yfd yeu hR (k:=i+1) (by omega);rw[show((i+1:Nat):Int)=(i:Int)+1 from by omega]at sl2;have c1:W.cell? ⟨b,12,none⟩=some (.slice (some ⟨g,off,none⟩) s.timers.list.length cap):=M.cell (k:=12) rfl;have f0:∀o,W.frozen? ⟨b,o,none⟩=false:=fun o=>M.frozen o;obtain⟨wr,hwr⟩:∃wr,wr=(W.alloc (.cells #[.int .i64 0,.bool false,.int .i64 0,.int .i64 0,.string ⟨#[]⟩,.slice none 0 0,.int .i64 0] 193)).alloc (.cells #[.int .i64 tid,.bool tov,.int .i64 ck,.int .i64 cnn,.string cs,.slice la ln lc,.int .i64 thow] 193):=⟨_,rfl⟩;have hv:=hs';have HX:=zh8 M hR hP hC hZ r1 r2 (zai hv hkl);clear hs' M hR hP hC hZ r1 r2 cc hc hi hv hkl;go_enter Tryz.func178,Tryz.ntmps178;go_wp2_with fail;rw[←hwr];have B0:Below W.heap.size W wr:=by rw[hwr];exact((znv W.heap.size W).alloc (znc _) _).alloc (by simp) _
 have hb0:wr.heap[W.heap.size]? =some (.cells #[.int .i64 0,.bool false,.int .i64 0,.int .i64 0,.string ⟨#[]⟩,.slice none 0 0,.int .i64 0] 193 (0,0)):=by rw[hwr];exact yaE
 have hb1:wr.heap[W.heap.size+1]? =some (.cells #[.int .i64 tid,.bool tov,.int .i64 ck,.int .i64 cnn,.string cs,.slice la ln lc,.int .i64 thow] 193 (0,0)):=by rw[hwr];exact yar
 have HB:=zh4 B0 hb0 hb1 (B0.block b b0);have l1:W.heap.size<wr.heap.size:=zlt hb0;have l2:W.heap.size+1<wr.heap.size:=zlt hb1;have b1:b<wr.heap.size:=by omega
 have d1:wr.cell? ⟨b,12,none⟩=some (.slice (some ⟨g,off,none⟩) s.timers.list.length cap):=(B0.cell (p:=⟨b,12,none⟩) b0).trans c1;have df:∀o,wr.frozen? ⟨b,o,none⟩=false:=fun o=>(B0.frozen (p:=⟨b,o,none⟩) b0).trans (f0 o);have HL:=zhd (show(([]:List TC).length+(ks.take i).length)*80≤140737488355328∧([]:List TC).length+(ks.take i).length≤maxLen∧([]:List TC).length+(ks.take i).length=i∧((ks.take i).length+(ks.drop (i+1)).length)*80≤140737488355328∧(ks.take i).length+(ks.drop (i+1)).length≤maxLen∧(ks.take i).length+(ks.drop (i+1)).length=s.timers.list.length - 1 from by have:=HX.o.2.2.2.2.2.2.2.2;unfold maxLen;simp;omega);clear hwr c1 f0 B0 hb0 hb1 m0 m1 m2 m3 m4 m5 m6;go_region_law (first
  |(refine yaA (α:=TC) (o:=⟨some 21,_,_,_,_,_⟩) yeu (by rfl) (.tmp 14) (.tmp 20) (by rfl) (by rfl) (by rfl) (RowAt.none_ (znb _ _)) (((HX.o.2.2.2.2.2.1.below HB.o.1).drew).alloc _) HL.o.1 HL.o.2.1 i HL.o.2.2.1 ?_;intro a5 q5 w5 hr5 hk5 hf5;rw[List.nil_append]at hr5;have P5:=ybm (((Keeps.refl (fun _=>False) wr).drew).alloc _) hk5 (yct (znc _)) hf5;have hbb:=P5.1.block b b1 (fun f=>f);have e1:w5.cell? ⟨b,12,none⟩=some (.slice (some ⟨g,off,none⟩) s.timers.list.length cap):=(znt (w:=wr) hbb).trans d1;have H5:=zh2 hr5 P5;have ef:∀o,w5.frozen? ⟨b,o,none⟩=false:=(fun o=>(znu (w:=wr) hbb).trans (df o));have eb:b<w5.heap.size:=znj b1 P5.1.size;clear hr5 hk5 hf5 P5 hbb)
  |(refine yaA (α:=TC) (o:=⟨some 29,_,_,_,_,_⟩) yeu (by rfl) (.tmp 21) (.tmp 28) (by rfl) (by rfl) (by rfl) H5.o.1 ((HX.o.2.2.2.2.2.2.1.below HB.o.1).keep H5.o.2.1 (fun _ _ f=>f)) HL.o.2.2.2.1 HL.o.2.2.2.2.1 (s.timers.list.length - 1) HL.o.2.2.2.2.2 ?_;intro a6 q6 w6 hr6 hk6 hf6;have P6:=ybm H5.o.2.1 hk6 H5.o.2.2 hf6;have hbb:=P6.1.block b b1 (fun f=>f);have g1:w6.cell? ⟨b,12,none⟩=some (.slice (some ⟨g,off,none⟩) s.timers.list.length cap):=(znt (w:=wr) hbb).trans d1;have H6:=zh2 hr6 P6;have gf:∀o,w6.frozen? ⟨b,o,none⟩=false:=(fun o=>(znu (w:=wr) hbb).trans (df o));have gb:b<w6.heap.size:=znj b1 P6.1.size;clear hr6 hk6 hf6 P6 hbb))
 all_goals
  obtain⟨wz,hwz⟩:∃wz,wz=w6.setCell ⟨b,12,none⟩ (.slice a6 (s.timers.list.length - 1) q6):=⟨_,rfl⟩;have S:=HX.o.1.cut.putTms (v1:=.slice a6 (s.timers.list.length - 1) q6) s' H6.o.1 ((HX.o.2.2.1.erase i).mono (fun g h l=>⟨h.1,h.2,l⟩)) (((zkb (S:=fun _=>False) HB.o.1).trans H6.o.2.1 (fun _ _ f=>f)).mono (fun _ _ f=>f.elim)) (fun g hg=>.inr (znf HB.o.1.size (H6.o.2.2 g hg))) HX.o.2.2.2.2.2.2.2.1;have hz0:wz.heap[W.heap.size]? =some (.cells #[.int .i64 0,.bool false,.int .i64 0,.int .i64 0,.string ⟨#[]⟩,.slice none 0 0,.int .i64 0] 193 (0,0)):=by
   rw[hwz,znn _ _ _ _ (fun e=>by have e:W.heap.size=b:=e;omega)];exact(H6.o.2.1.block _ l1 (fun f=>f)).trans HB.o.2.1
  have hz1:wz.heap[W.heap.size+1]? =some (.cells #[.int .i64 tid,.bool tov,.int .i64 ck,.int .i64 cnn,.string cs,.slice la ln lc,.int .i64 thow] 193 (0,0)):=by
   rw[hwz,znn _ _ _ _ (fun e=>by have e:W.heap.size+1=b:=e;omega)];exact(H6.o.2.1.block _ l2 (fun f=>f)).trans HB.o.2.2.1
  rw[←hwz]at S⊢;have HS:=zh2 S (fun g (hg:(Value.slice a6 (s.timers.list.length - 1) q6).ownBlock=some g)=>H6.o.2.2 g hg);have q0:=zca hz0 0 rfl;have q1:=zca hz0 1 rfl;have q2:=zca hz0 2 rfl;have q3:=zca hz0 3 rfl;have q4:=zca hz0 4 rfl;have q5:=zca hz0 5 rfl;have q6:=zca hz0 6 rfl;have r0:=zca hz1 0 rfl;have r1:=zca hz1 1 rfl;have r2:=zca hz1 2 rfl;have r3:=zca hz1 3 rfl;have r4:=zca hz1 4 rfl;have r5:=zca hz1 5 rfl;have r6:=zca hz1 6 rfl;have qf:∀o,wz.frozen? ⟨W.heap.size,o,none⟩=false:=fun o=>zfr hz0 o;have z1:=zlt hz0;have z2:=zlt hz1;clear S hwz hz0 hz1 e1 ef eb g1 gf gb d1 df;go_wp2_with fail;exact zng (v:=.agg #[.int .i64 tid,.bool tov,.int .i64 ck,.int .i64 cnn,.string cs,.slice la ln lc,.int .i64 thow]) (by simp only[results,Tryz.results178];go_simp) rfl ⟨_,⟨tid,tov,⟨ck,cnn,cs,la,ln,lc⟩,thow⟩,rfl,zhd (by
   have K4:=yeD wz W.heap.size 0 1 2 3 4 5 6 (.int .i64 tid) (.bool tov) (.int .i64 ck) (.int .i64 cnn) (.string cs) (.slice la ln lc) (.int .i64 thow);have KM:=HS.o.1.2.late (K4.mono (fun j _ e=>Nat.le_of_eq e.symm));have MM:=ye3 HS.o.1.1 (S:=fun j=>j=W.heap.size) (fun j e=>Nat.le_of_eq e.symm) (fun j e h=>by
    rcases MO.turned (v:=⟨ss,ic,ps,inp,.slice (some ⟨g,off,none⟩) s.timers.list.length cap,as_,ls,ms⟩) (i0:=3) (fun i hi=>by
     match i with
     |0=>rfl
     |1=>rfl
     |2=>rfl
     |3=>first|rfl|exact absurd rfl hi
     |4=>first|rfl|exact absurd rfl hi
     |5=>rfl
     |6=>rfl
     |_+7=>rfl) h with h|h
    ·have:=HX.o.1.lt h;have e:j=W.heap.size:=e;omega
    ·have:=HS.o.2 j h;have e:j=W.heap.size:=e;omega) K4
   exact⟨MM,KM,TF.step KM HX.o.2.2.2.1⟩)⟩
theorem ygh
  {Z:Nat→Prop}(b:Nat)(v:MV)(p:Img)(s:MS)(W:World)(M:MX TT Z W b v p s)
  (i:Nat)(l:Th)(hi:s.acts.list[i]? =some l)(hl:s.acts.list.length≤4294967296)(s':MS)(hs':s'={s with acts:=⟨s.acts.list.eraseIdx i,s.acts.next⟩})(hZ:∀j,W.heap.size≤j→Z j):
  Calls Tryz.prog 178 #[.pointer (some ⟨b,14,none⟩),.int .i64 i] W (MPT Z W b v p l s'):=by
 obtain⟨ss,ic,ps,inp,ts,as_,ls,ms⟩:=v;obtain⟨a,cap,rfl⟩:∃a cap,as_= .slice a s.acts.list.length cap:=M.acs.slice;obtain⟨ks,hR,hP⟩:=M.acs.cells;obtain⟨⟨tid,tov,⟨ck,cnn,cs,la,ln,lc⟩,thow⟩,hc,hC⟩:=hP.get hi;obtain⟨g,off,rfl,hg⟩:=hR.addr hc;have b0:=zlt M.h;have cc:=fun(j:Nat) (hj:j<7)=>hR.cell hc (j:=j) hj;have m0:W.cell? ⟨g,off+i*7,none⟩=some (.int .i64 tid):=cc 0 (by decide);have m1:W.cell? ⟨g,off+i*7+1,none⟩=some (.bool tov):=by rw[zmm];exact cc 1 (by decide)
 have m2:W.cell? ⟨g,off+i*7+2,none⟩=some (.int .i64 ck):=by rw[zmm];exact cc 2 (by decide)
 have m3:W.cell? ⟨g,off+i*7+3,none⟩=some (.int .i64 cnn):=by rw[zmm];exact cc 3 (by decide)
 have m4:W.cell? ⟨g,off+i*7+4,none⟩=some (.string cs):=by rw[zmm];exact cc 4 (by decide)
 have m5:W.cell? ⟨g,off+i*7+5,none⟩=some (.slice la ln lc):=by rw[zmm];exact cc 5 (by decide)
 have m6:W.cell? ⟨g,off+i*7+6,none⟩=some (.int .i64 thow):=by rw[zmm];exact cc 6 (by decide)
 have hil:i<s.acts.list.length:=(zge hi).1;have hkl:ks.length=s.acts.list.length:=hP.1;have hw1:IntKind.i64.wrap ((i:Int)+1)=(i:Int)+1:=zmk _ (by omega);have hw2:wrap64 ((i:Int)+1)=(i:Int)+1:=by unfold wrap64;omega
 have hix:(i:Int)<s.acts.list.length:=by omega
 obtain⟨sl1,r1⟩:=yj7 yeu hR (k:=i) (by omega);obtain⟨ad2,sl2,r2⟩:=yfd yeu hR (k:=i+1) (by omega);rw[show((i+1:Nat):Int)=(i:Int)+1 from by omega]at sl2;have c1:W.cell? ⟨b,14,none⟩=some (.slice (some ⟨g,off,none⟩) s.acts.list.length cap):=M.cell (k:=14) rfl;have f0:∀o,W.frozen? ⟨b,o,none⟩=false:=fun o=>M.frozen o;obtain⟨wr,hwr⟩:∃wr,wr=(W.alloc (.cells #[.int .i64 0,.bool false,.int .i64 0,.int .i64 0,.string ⟨#[]⟩,.slice none 0 0,.int .i64 0] 193)).alloc (.cells #[.int .i64 tid,.bool tov,.int .i64 ck,.int .i64 cnn,.string cs,.slice la ln lc,.int .i64 thow] 193):=⟨_,rfl⟩;have hv:=hs';have HX:=zh8 M hR hP hC hZ r1 r2 (zai hv hkl);clear hs' M hR hP hC hZ r1 r2 cc hc hi hv hkl;go_enter Tryz.func178,Tryz.ntmps178;go_wp2_with fail;rw[←hwr];have B0:Below W.heap.size W wr:=by rw[hwr];exact((znv W.heap.size W).alloc (znc _) _).alloc (by simp) _
 have hb0:wr.heap[W.heap.size]? =some (.cells #[.int .i64 0,.bool false,.int .i64 0,.int .i64 0,.string ⟨#[]⟩,.slice none 0 0,.int .i64 0] 193 (0,0)):=by rw[hwr];exact yaE
 have hb1:wr.heap[W.heap.size+1]? =some (.cells #[.int .i64 tid,.bool tov,.int .i64 ck,.int .i64 cnn,.string cs,.slice la ln lc,.int .i64 thow] 193 (0,0)):=by rw[hwr];exact yar
 have HB:=zh4 B0 hb0 hb1 (B0.block b b0);have l1:W.heap.size<wr.heap.size:=zlt hb0;have l2:W.heap.size+1<wr.heap.size:=zlt hb1;have b1:b<wr.heap.size:=by omega
 have d1:wr.cell? ⟨b,14,none⟩=some (.slice (some ⟨g,off,none⟩) s.acts.list.length cap):=(B0.cell (p:=⟨b,14,none⟩) b0).trans c1;have df:∀o,wr.frozen? ⟨b,o,none⟩=false:=fun o=>(B0.frozen (p:=⟨b,o,none⟩) b0).trans (f0 o);have HL:=zhd (show(([]:List TC).length+(ks.take i).length)*80≤140737488355328∧([]:List TC).length+(ks.take i).length≤maxLen∧([]:List TC).length+(ks.take i).length=i∧((ks.take i).length+(ks.drop (i+1)).length)*80≤140737488355328∧(ks.take i).length+(ks.drop (i+1)).length≤maxLen∧(ks.take i).length+(ks.drop (i+1)).length=s.acts.list.length - 1 from by have:=HX.o.2.2.2.2.2.2.2.2;unfold maxLen;simp;omega);clear hwr c1 f0 B0 hb0 hb1 m0 m1 m2 m3 m4 m5 m6;go_region_law (first
  |(refine yaA (α:=TC) (o:=⟨some 21,_,_,_,_,_⟩) yeu (by rfl) (.tmp 14) (.tmp 20) (by rfl) (by rfl) (by rfl) (RowAt.none_ (znb _ _)) (((HX.o.2.2.2.2.2.1.below HB.o.1).drew).alloc _) HL.o.1 HL.o.2.1 i HL.o.2.2.1 ?_;intro a5 q5 w5 hr5 hk5 hf5;rw[List.nil_append]at hr5;have P5:=ybm (((Keeps.refl (fun _=>False) wr).drew).alloc _) hk5 (yct (znc _)) hf5;have hbb:=P5.1.block b b1 (fun f=>f);have e1:w5.cell? ⟨b,14,none⟩=some (.slice (some ⟨g,off,none⟩) s.acts.list.length cap):=(znt (w:=wr) hbb).trans d1;have H5:=zh2 hr5 P5;have ef:∀o,w5.frozen? ⟨b,o,none⟩=false:=(fun o=>(znu (w:=wr) hbb).trans (df o));have eb:b<w5.heap.size:=znj b1 P5.1.size;clear hr5 hk5 hf5 P5 hbb)
  |(refine yaA (α:=TC) (o:=⟨some 29,_,_,_,_,_⟩) yeu (by rfl) (.tmp 21) (.tmp 28) (by rfl) (by rfl) (by rfl) H5.o.1 ((HX.o.2.2.2.2.2.2.1.below HB.o.1).keep H5.o.2.1 (fun _ _ f=>f)) HL.o.2.2.2.1 HL.o.2.2.2.2.1 (s.acts.list.length - 1) HL.o.2.2.2.2.2 ?_;intro a6 q6 w6 hr6 hk6 hf6;have P6:=ybm H5.o.2.1 hk6 H5.o.2.2 hf6;have hbb:=P6.1.block b b1 (fun f=>f);have g1:w6.cell? ⟨b,14,none⟩=some (.slice (some ⟨g,off,none⟩) s.acts.list.length cap):=(znt (w:=wr) hbb).trans d1;have H6:=zh2 hr6 P6;have gf:∀o,w6.frozen? ⟨b,o,none⟩=false:=(fun o=>(znu (w:=wr) hbb).trans (df o));have gb:b<w6.heap.size:=znj b1 P6.1.size;clear hr6 hk6 hf6 P6 hbb))
 all_goals
  obtain⟨wz,hwz⟩:∃wz,wz=w6.setCell ⟨b,14,none⟩ (.slice a6 (s.acts.list.length - 1) q6):=⟨_,rfl⟩;have S:=HX.o.1.cut.putAcs (v1:=.slice a6 (s.acts.list.length - 1) q6) s' H6.o.1 ((HX.o.2.2.1.erase i).mono (fun g h l=>⟨h.1,h.2,l⟩)) (((zkb (S:=fun _=>False) HB.o.1).trans H6.o.2.1 (fun _ _ f=>f)).mono (fun _ _ f=>f.elim)) (fun g hg=>.inr (znf HB.o.1.size (H6.o.2.2 g hg))) HX.o.2.2.2.2.2.2.2.1;have hz0:wz.heap[W.heap.size]? =some (.cells #[.int .i64 0,.bool false,.int .i64 0,.int .i64 0,.string ⟨#[]⟩,.slice none 0 0,.int .i64 0] 193 (0,0)):=by
   rw[hwz,znn _ _ _ _ (fun e=>by have e:W.heap.size=b:=e;omega)];exact(H6.o.2.1.block _ l1 (fun f=>f)).trans HB.o.2.1
  have hz1:wz.heap[W.heap.size+1]? =some (.cells #[.int .i64 tid,.bool tov,.int .i64 ck,.int .i64 cnn,.string cs,.slice la ln lc,.int .i64 thow] 193 (0,0)):=by
   rw[hwz,znn _ _ _ _ (fun e=>by have e:W.heap.size+1=b:=e;omega)];exact(H6.o.2.1.block _ l2 (fun f=>f)).trans HB.o.2.2.1
  rw[←hwz]at S⊢;have HS:=zh2 S (fun g (hg:(Value.slice a6 (s.acts.list.length - 1) q6).ownBlock=some g)=>H6.o.2.2 g hg);have q0:=zca hz0 0 rfl;have q1:=zca hz0 1 rfl;have q2:=zca hz0 2 rfl;have q3:=zca hz0 3 rfl;have q4:=zca hz0 4 rfl;have q5:=zca hz0 5 rfl;have q6:=zca hz0 6 rfl;have r0:=zca hz1 0 rfl;have r1:=zca hz1 1 rfl;have r2:=zca hz1 2 rfl;have r3:=zca hz1 3 rfl;have r4:=zca hz1 4 rfl;have r5:=zca hz1 5 rfl;have r6:=zca hz1 6 rfl;have qf:∀o,wz.frozen? ⟨W.heap.size,o,none⟩=false:=fun o=>zfr hz0 o;have z1:=zlt hz0;have z2:=zlt hz1;clear S hwz hz0 hz1 e1 ef eb g1 gf gb d1 df;go_wp2_with fail;exact zng (v:=.agg #[.int .i64 tid,.bool tov,.int .i64 ck,.int .i64 cnn,.string cs,.slice la ln lc,.int .i64 thow]) (by simp only[results,Tryz.results178];go_simp) rfl ⟨_,⟨tid,tov,⟨ck,cnn,cs,la,ln,lc⟩,thow⟩,rfl,zhd (by
   have K4:=yeD wz W.heap.size 0 1 2 3 4 5 6 (.int .i64 tid) (.bool tov) (.int .i64 ck) (.int .i64 cnn) (.string cs) (.slice la ln lc) (.int .i64 thow);have KM:=HS.o.1.2.late (K4.mono (fun j _ e=>Nat.le_of_eq e.symm));have MM:=ye3 HS.o.1.1 (S:=fun j=>j=W.heap.size) (fun j e=>Nat.le_of_eq e.symm) (fun j e h=>by
    rcases MO.turned (v:=⟨ss,ic,ps,inp,ts,.slice (some ⟨g,off,none⟩) s.acts.list.length cap,ls,ms⟩) (i0:=4) (fun i hi=>by
     match i with
     |0=>rfl
     |1=>rfl
     |2=>rfl
     |3=>first|rfl|exact absurd rfl hi
     |4=>first|rfl|exact absurd rfl hi
     |5=>rfl
     |6=>rfl
     |_+7=>rfl) h with h|h
    ·have:=HX.o.1.lt h;have e:j=W.heap.size:=e;omega
    ·have:=HS.o.2 j h;have e:j=W.heap.size:=e;omega) K4
   exact⟨MM,KM,TF.step KM HX.o.2.2.2.1⟩)⟩
def spk (s:MS)(i:Nat):MS:={s with stk:=s.stk.take (s.stk.length - i)}
theorem ykC (s:MS):spk s 0=s:=by unfold spk;rw[Nat.sub_zero,List.take_length]
theorem ylU {s:MS}{i:Nat}(h:i<s.stk.length):(spk s i).pop=spk s (i+1)∧s.stk.drop (s.stk.length - (i+1))=(spk s i).top::s.stk.drop (s.stk.length - i):=by
 obtain⟨x,hx⟩:=yad (l:=s.stk) (k:=s.stk.length - (i+1)) (by omega);constructor
 ·unfold spk MS.pop
  simp only;rw[List.dropLast_eq_take,List.take_take,List.length_take]
  congr 1
  congr 1
  omega
 ·rw[ycK hx,show s.stk.length - (i+1)+1=s.stk.length - i from by omega]
  congr 1
  unfold spk MS.top;simp only;rw[List.getLast?_eq_getElem?,List.length_take,List.getElem?_take,if_pos (by omega),show min (s.stk.length - i) s.stk.length - 1=s.stk.length - (i+1)from by omega,hx];rfl
theorem ykP {Z:Nat→Prop}{W w':World}{b:Nat}{v v':MV}{cs:List VC}{l:List Val}(K:MK b v W v' w')(h:Ptw (MZ Z v b) W cs l):Ptw (MZ Z v' b) w' cs l:=
 ((h.mono (G:=fun g=>MZ Z v b g∧MZ Z v' b g) (fun _ hg hl=>⟨hg,MZ.step K hg hl⟩)).keep K.keeps (fun _ hg e=>hg.1.1 e)).mono (fun _ hg _=>hg.2)
structure PkR (Z:Nat→Prop)(W:World)(b:Nat)(v:MV)(p:Img)(s:MS)(B i:Nat)(v':MV)(a:Option Addr)(cap:Nat)(cs:List VC)(wr:World):Prop where
 m:MX TT (fun j=>Z j∧j≠B) wr b v' p (spk s i)
 k:MK b v W v' wr
 box:wr.heap[B]? =some (.cells #[.int .i64 3,.int .i64 0,.string ⟨#[]⟩,.slice a i cap] 38 (0,0))
 nb:¬MO v' b B
 row:RowAt wr 38 (.slice a i cap) cs
 p:Ptw (MZ (fun j=>Z j∧j≠B) v' b) wr cs (s.stk.drop (s.stk.length - i))
 own:∀g,(Value.slice a i cap).ownBlock=some g→W.heap.size≤g∧¬MO v' b g∧g≠B
 sz:W.heap.size≤wr.heap.size
def yoC (Z:Nat→Prop)(W:World)(b:Nat)(v:MV)(p:Img)(s:MS)(B k:Nat)(gk:Nat)(v15:Value)(wr:World):Prop:=
 ∃(i:Nat) (v':MV) (a:Option Addr) (cap:Nat) (cs:List VC),v15= .int .i64 i∧i≤k∧gk=k - i∧PkR Z W b v p s B i v' a cap cs wr
theorem ygm
  {Z:Nat→Prop}(b:Nat)(v:MV)(p:Img)(s:MS)(W:World)(M:MX TT Z W b v p s)
  (k:Nat)(hks:k≤s.stk.length)(hk:s.stk.length≤4294967296)(hl:s.made.length≤4294967296)(hZ:∀j,W.heap.size≤j→Z j)(s':MS)(hw:(Val.mk 3 0 ⟨#[]⟩ (s.stk.drop (s.stk.length - k))).wf)
  (hs':s'=(spk s k).put (.mk 3 0 ⟨#[]⟩ (s.stk.drop (s.stk.length - k)))):
  Calls Tryz.prog 164 #[.pointer (some ⟨b,0,none⟩),.agg #[.int .i64 29,.int .i64 k]] W (MP Z W b v p (.bool true) s'):=by
 obtain⟨w0,hw0⟩:∃w0,w0=W.alloc (.cells #[.int .i64 29,.int .i64 k] 106):=⟨_,rfl⟩;have B0:=zba hw0;have hs0:w0.heap.size=W.heap.size+1:=by rw[hw0];simp
 have hlt:W.heap.size<w0.heap.size:=by rw[hs0];omega
 have c0:w0.cell? ⟨W.heap.size,0,none⟩=some (.int .i64 29):=by rw[hw0,zch (znb _ _)];rfl
 have c1:w0.cell? ⟨W.heap.size,1,none⟩=some (.int .i64 k):=by rw[hw0,zch (znb _ _)];rfl
 obtain⟨w1,hw1⟩:∃w1,w1=w0.alloc (.cells #[.int .i64 3,.int .i64 0,.string ⟨#[]⟩,.slice none 0 0] 38):=⟨_,rfl⟩;have B1:Below W.heap.size W w1:=by rw[hw1];exact B0.alloc B0.size _
 have hb1:w1.heap[W.heap.size+1]? =some (.cells #[.int .i64 3,.int .i64 0,.string ⟨#[]⟩,.slice none 0 0] 38 (0,0)):=by rw[hw1,←hs0];exact znb _ _
 have d1:w1.cell? ⟨W.heap.size,1,none⟩=some (.int .i64 k):=by rw[hw1,znt (w:=w0) (zne _ _ _ hlt)];exact c1
 have l1:W.heap.size<w1.heap.size:=by rw[hw1,yeh];omega
 have P0:PkR Z W b v p s (W.heap.size+1) 0 v none 0 [] w1:=⟨by rw[ykC];exact(M.monoZ (fun j h l=>⟨h,by omega⟩)).ext B1,MK.ext B1,hb1,fun e=>by have:=M.lt e;omega,RowAt.nil _ _,by rw[Nat.sub_zero,List.drop_length];exact Ptw.nil,(fun g hg=>by cases hg),B1.size⟩;have hB0:W.heap.size≤w0.heap.size:=by omega
 have HX:=zh8 P0 hw hs' hk hl hZ hks hB0;clear M P0 hw hs' hk hl hZ hs0 hb1 B0 B1;go_enter Tryz.func164,Tryz.ntmps164;go_wp2_with fail;rw[←hw0,←hw1];clear hw0 hw1 c0 c1 d1 hB0 hlt l1;go_loopg [15] k (fun gk v15 wr=>yoC Z W b v p s (W.heap.size+1) k gk v15 wr)
 case atStart=>exact⟨0,v,none,0,[],rfl,znq _,rfl,HX.o.1⟩
 case round=>
  obtain⟨i,v',a,cap,cs,rfl,hi,hgk,R⟩:=hrel;have hks:=HX.o.2.2.2.2.2.2.1;have hk:=HX.o.2.2.2.1;have q0:=zca R.box 0 rfl;have q1:=zca R.box 1 rfl;have q2:=zca R.box 2 rfl;have q3:=zca R.box 3 rfl;have qf:∀o,wr.frozen? ⟨W.heap.size+1,o,none⟩=false:=fun o=>zfr R.box o;have lb:=zlt R.box;by_cases hin:i<k
  ·have hin':(i:Int)<k:=by omega
   have HMS:=zhd (show k - (i+1)<gk from by omega);have HIW:=zhd (show wrap64 ((i:Int)+1)=(i:Int)+1 from by unfold wrap64;omega);have hi1:i+1≤k:=by omega
   obtain⟨hp1,hp2⟩:=ylU (s:=s) (i:=i) (by omega);have PO:=zhd (yag b v' p (spk s i) wr.drew (R.m.ext (znv _ _).drew));have hcl:cs.length=i:=by rw[R.p.1,List.length_drop];omega
   have HR:=zh4 R hp1 hp2 hcl;have HBD:=zhd (show∀c:VC,([c].length+cs.length)*56≤140737488355328∧[c].length+cs.length≤maxLen∧[c].length+cs.length=i+1 from fun c=>by unfold maxLen;simp;omega);clear R hp1 hp2 hcl hgk hks hk;go_wp2_with fail;go_region_law (first
    |(go_simp;go_at_call 159;refine PO.o.mono ?_;rintro e w5 ⟨v5,⟨ck,cn,ct,la,ln,lc⟩,rfl,H5⟩;have hb5:=(H5.o.2.1.keeps.block (W.heap.size+1) lb (fun e=>HR.o.1.nb e)).trans HR.o.1.box;have e3:w5.cell? ⟨W.heap.size+1,3,none⟩=some (.slice a i cap):=(by rw[zch hb5];rfl);have ef:∀o,w5.frozen? ⟨W.heap.size+1,o,none⟩=false:=(fun o=>zfr hb5 o);have el:=zlt hb5;have HB5:=zhd hb5;clear hb5)
    |(refine yaA (α:=VC) (o:=⟨some 24,_,_,_,_,_⟩) yfc (by rfl) (.tmp 21) (.tmp 23) (by rfl) (v:=.slice (some ⟨w5.heap.size,0,none⟩) 1 1) (u:=.slice a i cap) (by rfl) (by rfl) (xs:=[⟨ck,cn,ct,la,ln,lc⟩]) (ys:=cs) (RowAt.lit (α:=VC) (y:=⟨ck,cn,ct,la,ln,lc⟩) (znb _ _)) ((HR.o.1.row.drew.keep H5.o.2.1.keeps (fun g hg e=>(HR.o.1.own g hg).2.1 e)).alloc _) (HBD.o _).1 (HBD.o _).2.1 (i+1) (HBD.o _).2.2 ?_;intro a1 cp w7 hr1 hk1 hf1;have hb7:=(hk1.block (W.heap.size+1) (by simp;omega) (fun e=>by simp[Value.ownBlock]at e;omega)).trans ((zne _ _ _ el).trans HB5.o);have g3:w7.cell? ⟨W.heap.size+1,3,none⟩=some (.slice a i cap):=(by rw[zch hb7];rfl);have gf:∀o,w7.frozen? ⟨W.heap.size+1,o,none⟩=false:=(fun o=>zfr hb7 o);have gl:=zlt hb7;have H7:=zh4 hr1 hk1 hf1 hb7;clear hr1 hk1 hf1 hb7))
   all_goals
    go_wp2_with fail;go_roundg (k - (i+1))
    case measure=>exact HMS.o
    case rel=>
     have sz5:=H5.o.2.1.keeps.size;have KA:Keeps (fun _=>False) w5 w7:=((Keeps.refl (fun _=>False) w5).alloc _).trans H7.o.2.1 (fun j hj e=>by simp[Value.ownBlock]at e;omega);have KB:Keeps (fun j=>j=W.heap.size+1) w7 (w7.setCell ⟨W.heap.size+1,3,none⟩ (.slice a1 (i+1) cp)):=Keeps.setCell (S:=fun j=>j=W.heap.size+1) (p:=⟨W.heap.size+1,3,none⟩) (Keeps.refl _ _) (.inl rfl) _;have hnb:¬MO v5 b (W.heap.size+1):=fun e=>(H5.o.2.1.own _ e).elim HR.o.1.nb (fun h=>by have h:wr.heap.size≤W.heap.size+1:=h;omega);have hfr:∀g,(Value.slice a1 (i+1) cp).ownBlock=some g→w5.heap.size≤g:=fun g hg=>by
      rcases H7.o.2.2.1 g hg with h|h
      ·simp[Value.ownBlock]at h;omega
      ·simp at h;omega
     have KAB:Keeps (fun j=>j=W.heap.size+1) w5 (w7.setCell ⟨W.heap.size+1,3,none⟩ (.slice a1 (i+1) cp)):=(KA.mono (fun _ _ f=>f.elim)).trans KB (fun _ _ e=>e);have K5:MK b v' wr v5 w5:=(MK.ext ((znv wr.heap.size wr).drew)).trans H5.o.2.1;have KM:MK b v W v5 (w7.setCell ⟨W.heap.size+1,3,none⟩ (.slice a1 (i+1) cp)):=(HR.o.1.k.trans K5).late (KAB.mono (fun j _ e=>by omega));have hlt5:W.heap.size+1<w5.heap.size:=znj lb sz5;have M5:MX TT (fun j=>Z j∧j≠W.heap.size+1) w5 b v5 p (spk s (i+1)):=by rw[←HR.o.2.1];exact H5.o.1
     refine⟨i+1,v5,a1,cp,[⟨ck,cn,ct,la,ln,lc⟩]++cs,by first|rfl|(rw[HIW.o];rfl)|simp,hi1,rfl,⟨?_,KM,?_,hnb,?_,?_,?_,?_⟩⟩
     ·exact M5.far KAB (fun j e h=>hnb (e▸h)) (fun j e h=>h.2 e)
     ·have h7:=H7.o.2.2.2
      simp[World.setCell,zni,h7]
     ·exact H7.o.1.keep KB (fun g hg e=>by have:=hfr g hg;have e:g=W.heap.size+1:=e;omega)
     ·rw[HR.o.2.2.1]
      exact((Ptw.one (x:=(spk s i).top) H5.o.2.2).app (ykP K5 HR.o.1.p)).keep KAB (fun g h e=>h.2.2 e)
     ·exact fun g hg=>⟨by have:=hfr g hg;omega,fun e=>by have:=M5.lt e;have:=hfr g hg;omega,by have:=hfr g hg;omega⟩
     ·have:=KAB.size
      have:=HR.o.1.sz;omega
  ·obtain rfl:i=k:=by omega
   have CV:CF (MZ Z v' b) wr ⟨3,0,⟨#[]⟩,a,i,cap⟩ (.mk 3 0 ⟨#[]⟩ (s.stk.drop (s.stk.length - i))):=⟨rfl,rfl,rfl,VF.of (RdF.of_row R.row (fun g hg=>⟨(R.own g hg).2.1,HX.o.2.2.2.2.2.1 g (R.own g hg).1⟩)) (R.p.mono (fun g h _=>⟨h.1,h.2.1⟩))⟩;have PU:=zhd (ygz b v' p (spk s i) wr (R.m.monoZ (fun j h _=>h.1)) (.mk 3 0 ⟨#[]⟩ (s.stk.drop (s.stk.length - i))) 3 0 ⟨#[]⟩ a i cap CV HX.o.2.1 (by unfold spk;simp only[List.length_take];omega) (by exact HX.o.2.2.2.2.1) (yac HX.o.2.2.2.2.2.1 R.sz) s' HX.o.2.2.1.symm);have HR:=zhd R;clear CV R hks hk hgk;go_wp2_with fail;refine PU.o.mono ?_;rintro e w5 ⟨v5,rfl,H5⟩;go_wp2_with fail;go_ret;exact⟨v5,rfl,zhd ⟨H5.o.1,HR.o.k.trans H5.o.2⟩⟩
end Go.Proofs.YtpagmlndgblhhaaGreatDoor
