/- Parts of the proof: what the functions and the plain laws give that later parts lean on. Conditions: none beyond those that each theorem names. -/
import Derived.Test.YtpagmlndgblhhaaGreatDoorR24
set_option maxRecDepth 100000
set_option maxHeartbeats 8000000
namespace Go.Va
open Go.Own Go.RowKit
open Go.Proofs.YtpagmlndgblhhaaGreatDoor
theorem yjo {k:Int}(h:yaS k=true):k=1∨k=8∨k=9∨k=10∨k=12∨k=14∨k=15∨k=19∨k=20:=znx h
theorem yfK (s:MS)(e:Ev):(hear s e).letters.length≤s.letters.length+1:=by
 unfold hear
 repeat' split
 all_goals first|exact Nat.le_succ _|exact Nat.le_of_eq (by show(s.letters++[_]).length=_;rw[znk];rfl)
theorem yko {p:Img}{fa:Fa}(K:Known p fa){s:MS}(S:St p fa s){e:Ev}(h0:yaj e=0)(hw:e.v.wf)(hov:s.over=false)(he:s.events≤30){s1:MS}(hs1:hear {s with now:=e.time,steps:=0,events:=s.events+1} e=s1):
  Rk p s1∧At fa s1∧s1.made.length+fuel p s1≤4000000000∧s1.letters.length≤4294967296∧s1.steps+fuel p s1≤4000000000∧s.letters.length≤30:=by
 have hr:=yi9 K S he;obtain⟨s0,hs0⟩:∃s0:MS,s0={s with now:=e.time,steps:=0,events:=s.events+1}:=⟨_,rfl⟩;rw[←hs0]at hs1;have V:=S.rk.vs;have V0:Vs s0:=by rw[hs0];exact⟨V.stk,V.pls,V.inp,V.tms,V.acs,V.lts,V.mds,(ycg h0).1,V.nt,V.na⟩
 have o1:=yhC s0 e;have q1:=ydo s0 e;have m1:=ydU s0 e;have l1:=yfK s0 e;have a1:=yjK (s:=s0) e (by rw[hs0];exact S.good.at_ hov);have V1:=V0.hear h0 hw;have hp0:=S.good.pot hov;have hp1:pot s0=pot s:=by rw[hs0];rfl
 have hl0:s.letters.length≤pot s:=by unfold pot;omega
 have hl1:s0.letters=s.letters:=by rw[hs0]
 have hm0:s0.made=s.made:=by rw[hs0]
 have hst:s0.steps=0:=by rw[hs0]
 rw[hs1]at o1 q1 m1 l1 a1 V1;have hf:fuel p s1≤(p.code.length+1)*(s.events+2):=by
  unfold fuel;exact Nat.mul_le_mul_left _ (by omega)
 refine⟨⟨V1,by rw[o1.1,hs0];exact S.rk.opn,by rw[o1.2,hs0];exact S.rk.pls⟩,a1,?_,?_,?_,by omega⟩
 ·rw[m1.1,hm0];omega
 ·rw[hl1]at l1;omega
 ·rw[q1.2.2,hst];omega
end Go.Va
namespace Go.Proofs.YtpagmlndgblhhaaGreatDoor
open Go.RowKit Go.Own Go.Own.MapTy Go.Va Go.Sort
open Go.Own.Cells (sz enc)
theorem yf5
  {Z:Nat→Prop}(b:Nat)(v:MV)(p:Img)(s:MS)(W:World)(M:MX TT Z W b v p s){N:Nat}(G:Gl Tryz.prog N W)(fa:Fa)(K:Known p fa)(P:Pk p)(hsp:fa.span≤p.code.length+1)(S:St p fa s)(hev:s.events≤30)(hZ:∀j,W.heap.size≤j→Z j)
  (id t k a bb:Int)(nm tx:ByteArray)(x:Val)(vk vn:Int)(vs:ByteArray)(la:Option Addr)(ln lc:Nat)(F:Nat→Prop)(C:CF F W ⟨vk,vn,vs,la,ln,lc⟩ x)(hw:x.wf)(hF:∀g,F g→¬MO v b g)(r:Int×MS)(hr:yay p s ⟨id,t,k,a,bb,nm,tx,x⟩=r):
  Calls Tryz.prog 70 #[.pointer (some ⟨b,0,none⟩),.agg #[.int .i64 id,.int .i64 t,.int .i64 k,.int .i64 a,.int .i64 bb,.string nm,.string tx,.int .i64 vk,.int .i64 vn,.string vs,.slice la ln lc]] W (MP Z W b v p (.int .i64 r.1) r.2):=by
 subst hr;by_cases h0:yaj ⟨id,t,k,a,bb,nm,tx,x⟩=0
 ·by_cases ho:yaS k=true
  ·have hn1:¬(yaj ⟨id,t,k,a,bb,nm,tx,x⟩≠0∨yaS k=false):=fun h=>h.elim (fun h=>h h0) (fun h=>by rw[ho]at h;cases h)
   by_cases hov:s.over=true
   ·have e:yay p s ⟨id,t,k,a,bb,nm,tx,x⟩=(181,s):=by unfold yay;rw[if_neg hn1,if_pos hov]
    rw[e];exact yiM b v p s W M G id t k a bb nm tx x vk vn vs la ln lc F C hw h0 ho hov
   ·by_cases hbg:s.begun=(k==1)
    ·have e:yay p s ⟨id,t,k,a,bb,nm,tx,x⟩=(7,s):=by unfold yay;rw[if_neg hn1,if_neg hov,if_pos hbg]
     rw[e];exact yg0 b v p s W M G id t k a bb nm tx x vk vn vs la ln lc F C hw h0 ho (by simpa using hov) hbg
    ·obtain⟨s1,hs1⟩:∃s1,hear {s with now:=t,steps:=0,events:=s.events+1} ⟨id,t,k,a,bb,nm,tx,x⟩=s1:=⟨_,rfl⟩
     have e:yay p s ⟨id,t,k,a,bb,nm,tx,x⟩=(0,ykJ p s1):=by unfold yay;rw[if_neg hn1,if_neg hov,if_neg hbg,←hs1]
     rw[e];have hov:s.over=false:=by simpa using hov
     obtain⟨R1,A1,b1,b2,b3,b4⟩:=yko K S h0 hw hov hev hs1;have RT:∀(W':World) (v':MV),MX TT Z W' b v' p s1→W.heap.size≤W'.heap.size→Calls Tryz.prog 109 #[.pointer (some ⟨b,0,none⟩)] W' (MP Z W' b v' p (.tuple #[]) (ykJ p s1)):=
      fun W' v' M' hs=>ylZ b v' p s1 W' M' fa K P R1 (fuel p s1) (fun _=>⟨A1,yfF hsp⟩) b1 b2 b3 (yac hZ hs) _ rfl
     have hop:=S.rk.opn;unfold opn at hop;have hec:=ycg h0;have hsz:=ycT (x:=x) ⟨hec.2.2.2.2.2.2.2,hw⟩;have hnm:nm.size≤64:=hec.2.2.2.2.2.1;have hb1:∀k:Int,(k==1)=false→¬s.begun=(k==1)→s.begun=true:=fun k hk h=>by rw[hk]at h;simpa using h
     rcases yjo ho with rfl|rfl|rfl|rfl|rfl|rfl|rfl|rfl|rfl
     ·exact yg1 b v p s W M G id t a bb nm tx x vk vn vs la ln lc F C hw h0 hov (by simpa using hbg) hF (by omega) hZ (by omega) s1 _ hs1 RT
     ·exact yiQ b v p s W M G id t a bb nm tx x vk vn vs la ln lc F C hw h0 hov (hb1 8 rfl hbg) hF (by omega) hZ (by omega) (by omega) s1 _ hs1 RT
     ·exact yf4 b v p s W M G id t a bb nm tx x vk vn vs la ln lc F C hw h0 hov (hb1 9 rfl hbg) hF (by omega) hZ (by omega) hnm s1 _ hs1 RT
     ·exact yiO b v p s W M G id t a bb nm tx x vk vn vs la ln lc F C hw h0 hov (hb1 10 rfl hbg) hF (by omega) hZ (by omega) s1 _ hs1 RT
     ·exact yg3 b v p s W M G id t a bb nm tx x vk vn vs la ln lc F C hw h0 hov (hb1 12 rfl hbg) hF (by omega) hZ (by omega) s1 _ hs1 RT
     ·exact yf3 b v p s W M G id t a bb nm tx x vk vn vs la ln lc F C hw h0 hov (hb1 14 rfl hbg) hF (by omega) hZ (by omega) (by omega) s1 _ hs1 RT
     ·exact yg5 b v p s W M G id t a bb nm tx x vk vn vs la ln lc F C hw h0 hov (hb1 15 rfl hbg) hF (by omega) s1 _ hs1 RT
     ·have hov1:s1.over=true:=by rw[←hs1];rfl
      have er:ykJ p s1=s1:=ydF hov1 _;rw[er];exact yg4 b v p s W M G id t a bb nm tx x vk vn vs la ln lc F C hw h0 hov (hb1 19 rfl hbg) hF (by omega) s1 hs1
     ·have hov1:s1.over=true:=by rw[←hs1];rfl
      have er:ykJ p s1=s1:=ydF hov1 _;rw[er];exact ygZ b v p s W M G id t a bb nm tx x vk vn vs la ln lc F C hw h0 hov (hb1 20 rfl hbg) hF (by omega) s1 hs1
  ·have ho:yaS k=false:=by simpa using ho
   have e:yay p s ⟨id,t,k,a,bb,nm,tx,x⟩=(9,s):=by unfold yay;rw[if_pos (.inr ho)]
   rw[e];exact yg2 b v p s W M G id t k a bb nm tx x vk vn vs la ln lc F C hw h0 ho
 ·have e:yay p s ⟨id,t,k,a,bb,nm,tx,x⟩=(9,s):=by unfold yay;rw[if_pos (.inl h0)]
  rw[e];exact ykm b v p s W M G id t k a bb nm tx x vk vn vs la ln lc F C hw _ rfl (by simpa using h0)
theorem ymU {x:Val}(h1:x.all B64)(h2:x.all (fun _ _ s=>s.size≤1100)):x.wf:=ymT h1 h2
theorem yop {c:Cm}(h:yaT c=0):checkL c.v=0:=by
 unfold yaT at h;split at h
 ·cases h
 ·split at h
  ·cases h
  ·split at h
   ·cases h
   ·split at h
    ·cases h
    ·exact h
theorem yjz {p:Img}{fa:Fa}{s:MS}(S:St p fa s):∀c∈s.made,szV c.v≤1073741824:=fun c hc=>by
 have h:=S.rk.vs.mds c hc;have:=ycT (x:=c.v) ⟨yop h.1,h.2⟩;omega
end Go.Proofs.YtpagmlndgblhhaaGreatDoor
namespace Go.Proofs.YtpagmlndgblhhaaGreatDoor
set_option linter.unusedSimpArgs false
open Go.RowKit Go.Own Go.Own.MapTy Go.Va Go.Sort
open Go.Own.Cells (sz enc)
set_option linter.unusedVariables false
theorem yaw {w:World}{g:Nat}{ty:TypeId}{id t k a b:Int}{nm tx:ByteArray}{vk vn:Int}{vs:ByteArray}{la:Option Addr}{ln lc:Nat}(h:w.heap[g]? =some (.cells #[.int .i64 id,.int .i64 t,.int .i64 k,.int .i64 a,.int .i64 b,.string nm,.string tx,.int .i64 vk,.int .i64 vn,.string vs,.slice la ln lc] ty (0,0))):w.cell? ⟨g,0,none⟩=some (.int .i64 id)∧w.cell? ⟨g,1,none⟩=some (.int .i64 t)∧w.cell? ⟨g,2,none⟩=some (.int .i64 k)∧w.cell? ⟨g,3,none⟩=some (.int .i64 a)∧w.cell? ⟨g,4,none⟩=some (.int .i64 b)∧w.cell? ⟨g,5,none⟩=some (.string nm)∧w.cell? ⟨g,6,none⟩=some (.string tx)∧w.cell? ⟨g,7,none⟩=some (.int .i64 vk)∧w.cell? ⟨g,8,none⟩=some (.int .i64 vn)∧w.cell? ⟨g,9,none⟩=some (.string vs)∧w.cell? ⟨g,10,none⟩=some (.slice la ln lc)∧g<w.heap.size∧∀o,w.frozen? ⟨g,o,none⟩=false:=
 ⟨(by rw[zch h];rfl),(by rw[zch h];rfl),(by rw[zch h];rfl),(by rw[zch h];rfl),(by rw[zch h];rfl),(by rw[zch h];rfl),(by rw[zch h];rfl),(by rw[zch h];rfl),(by rw[zch h];rfl),(by rw[zch h];rfl),(by rw[zch h];rfl),zlt h,fun o=>zfr h o⟩
theorem yhP {w:World}{g:Nat}{ty:TypeId}{k t a b:Int}{nm:ByteArray}{vk vn:Int}{vs:ByteArray}{la:Option Addr}{ln lc:Nat}(h:w.heap[g]? =some (.cells #[.int .i64 k,.int .i64 t,.int .i64 a,.int .i64 b,.string nm,.int .i64 vk,.int .i64 vn,.string vs,.slice la ln lc] ty (0,0))):w.cell? ⟨g,0,none⟩=some (.int .i64 k)∧w.cell? ⟨g,1,none⟩=some (.int .i64 t)∧w.cell? ⟨g,2,none⟩=some (.int .i64 a)∧w.cell? ⟨g,3,none⟩=some (.int .i64 b)∧w.cell? ⟨g,4,none⟩=some (.string nm)∧w.cell? ⟨g,5,none⟩=some (.int .i64 vk)∧w.cell? ⟨g,6,none⟩=some (.int .i64 vn)∧w.cell? ⟨g,7,none⟩=some (.string vs)∧w.cell? ⟨g,8,none⟩=some (.slice la ln lc)∧g<w.heap.size∧∀o,w.frozen? ⟨g,o,none⟩=false:=
 ⟨(by rw[zch h];rfl),(by rw[zch h];rfl),(by rw[zch h];rfl),(by rw[zch h];rfl),(by rw[zch h];rfl),(by rw[zch h];rfl),(by rw[zch h];rfl),(by rw[zch h];rfl),(by rw[zch h];rfl),zlt h,fun o=>zfr h o⟩
theorem yiD {F:Nat→Prop}{W:World}{ea:Option Addr}{en ec:Nat}{l:List Ev}(E:XRd F W (.slice ea en ec) l){i:Nat}{e:Ev}(he:l[i]? =some e):∃(g off:Nat) (vk vn:Int) (vs:ByteArray) (la:Option Addr) (ln lc:Nat),ea=some ⟨g,off,none⟩∧F g∧g<W.heap.size∧CF F W ⟨vk,vn,vs,la,ln,lc⟩ e.v∧W.cell? ⟨g,off+i*11,none⟩=some (.int .i64 e.id)∧W.cell? ⟨g,off+i*11+1,none⟩=some (.int .i64 e.time)∧W.cell? ⟨g,off+i*11+2,none⟩=some (.int .i64 e.kind)∧W.cell? ⟨g,off+i*11+3,none⟩=some (.int .i64 e.a)∧W.cell? ⟨g,off+i*11+4,none⟩=some (.int .i64 e.b)∧W.cell? ⟨g,off+i*11+5,none⟩=some (.string e.name)∧W.cell? ⟨g,off+i*11+6,none⟩=some (.string e.text)∧W.cell? ⟨g,off+i*11+7,none⟩=some (.int .i64 vk)∧W.cell? ⟨g,off+i*11+8,none⟩=some (.int .i64 vn)∧W.cell? ⟨g,off+i*11+9,none⟩=some (.string vs)∧W.cell? ⟨g,off+i*11+10,none⟩=some (.slice la ln lc):=by
 obtain⟨g,off,⟨z0,z1,z2,z3,z4,z5,z6,⟨zk,zn,zs,za,zl,zc⟩⟩,ha,hF,hg,hrel,hcs⟩:=E.at_ he;have hrel2:EvF F W ⟨z0,z1,z2,z3,z4,z5,z6,⟨zk,zn,zs,za,zl,zc⟩⟩ e:=hrel;obtain⟨d0,d1,d2,d3,d4,d5,d6,dv⟩:=hrel2;dsimp only at d0 d1 d2 d3 d4 d5 d6 dv;subst d0 d1 d2 d3 d4 d5 d6;exact⟨g,off,_,_,_,_,_,_,ha,hF,hg,dv,hcs 0 _ rfl,hcs 1 _ rfl,hcs 2 _ rfl,hcs 3 _ rfl,hcs 4 _ rfl,hcs 5 _ rfl,hcs 6 _ rfl,hcs 7 _ rfl,hcs 8 _ rfl,hcs 9 _ rfl,hcs 10 _ rfl⟩
theorem ylt {F:Nat→Prop}{W:World}{ea:Option Addr}{en ec:Nat}{l:List Cm}(E:XRd F W (.slice ea en ec) l){i:Nat}{e:Cm}(he:l[i]? =some e):∃(g off:Nat) (vk vn:Int) (vs:ByteArray) (la:Option Addr) (ln lc:Nat),ea=some ⟨g,off,none⟩∧F g∧g<W.heap.size∧CF F W ⟨vk,vn,vs,la,ln,lc⟩ e.v∧W.cell? ⟨g,off+i*9,none⟩=some (.int .i64 e.kind)∧W.cell? ⟨g,off+i*9+1,none⟩=some (.int .i64 e.time)∧W.cell? ⟨g,off+i*9+2,none⟩=some (.int .i64 e.a)∧W.cell? ⟨g,off+i*9+3,none⟩=some (.int .i64 e.b)∧W.cell? ⟨g,off+i*9+4,none⟩=some (.string e.name)∧W.cell? ⟨g,off+i*9+5,none⟩=some (.int .i64 vk)∧W.cell? ⟨g,off+i*9+6,none⟩=some (.int .i64 vn)∧W.cell? ⟨g,off+i*9+7,none⟩=some (.string vs)∧W.cell? ⟨g,off+i*9+8,none⟩=some (.slice la ln lc):=by
 obtain⟨g,off,⟨z0,z1,z2,z3,z4,⟨zk,zn,zs,za,zl,zc⟩⟩,ha,hF,hg,hrel,hcs⟩:=E.at_ he;have hrel2:CmF F W ⟨z0,z1,z2,z3,z4,⟨zk,zn,zs,za,zl,zc⟩⟩ e:=hrel;obtain⟨d0,d1,d2,d3,d4,dv⟩:=hrel2;dsimp only at d0 d1 d2 d3 d4 dv;subst d0 d1 d2 d3 d4;exact⟨g,off,_,_,_,_,_,_,ha,hF,hg,dv,hcs 0 _ rfl,hcs 1 _ rfl,hcs 2 _ rfl,hcs 3 _ rfl,hcs 4 _ rfl,hcs 5 _ rfl,hcs 6 _ rfl,hcs 7 _ rfl,hcs 8 _ rfl⟩
theorem ylW (x y:Int)(W:World)(hx:0≤x)(hy:0≤y)(hx2:x≤4611686018427387903):Calls Tryz.prog 57 #[.int .i64 x,.int .i64 y] W (fun e w'=>e= .returned (.int .i64 (yiR x y))∧W=w'):=by
 have h1:¬x<0:=by omega
 have h2:¬y<0:=by omega
 have h3:decide (x<0)=false:=znd h1;have h4:decide (y<0)=false:=znd h2;by_cases h5:4611686018427387903≤x
 ·have HR:=zhd (show yiR x y=4611686018427387903 by unfold yiR;rw[if_neg (by omega),if_pos (.inl h5)])
  have h6:decide (4611686018427387903≤x)=true:=zno h5;go_enter Tryz.func57,Tryz.ntmps57;go_wp2_with fail;go_ret;exact⟨by rw[HR.o];rfl,rfl⟩
 ·have h6:decide (4611686018427387903≤x)=false:=znd h5
  have h7:IntKind.i64.wrap (4611686018427387903 - x)=4611686018427387903 - x:=zmk _ (by omega);by_cases h8:4611686018427387903 - x<y
  ·have HR:=zhd (show yiR x y=4611686018427387903 by unfold yiR;rw[if_neg (by omega),if_pos (.inr h8)])
   have h9:decide (4611686018427387903 - x<y)=true:=zno h8;go_enter Tryz.func57,Tryz.ntmps57;go_wp2_with fail;go_ret;exact⟨by rw[HR.o];rfl,rfl⟩
  ·have HR:=zhd (show yiR x y=x+y by unfold yiR;rw[if_neg (by omega),if_neg (by omega)])
   have h9:decide (4611686018427387903 - x<y)=false:=znd h8;have h10:IntKind.i64.wrap (x+y)=x+y:=zmk _ (by omega);go_enter Tryz.func57,Tryz.ntmps57;go_wp2_with fail;go_ret;exact⟨by rw[HR.o];simp,rfl⟩
theorem ycN (id t k a b:Int)(nm tx:ByteArray)(vk vn:Int)(vs:ByteArray)(la:Option Addr)(ln lc:Nat)(w:World)(r:Bool)(hr:yb7 k=r):
  Calls Tryz.prog 31 #[.agg #[.int .i64 id,.int .i64 t,.int .i64 k,.int .i64 a,.int .i64 b,.string nm,.string tx,.int .i64 vk,.int .i64 vn,.string vs,.slice la ln lc]] w (fun e w'=>e= .returned (.bool r)∧Below w.heap.size w w'):=by
 subst hr;by_cases h11:k=11
 ·subst h11
  go_enter Tryz.func31,Tryz.ntmps31;go_wp2_with fail;go_ret;exact⟨rfl,zal⟩
 ·have n11:(k==11)=false:=by rw[zna];exact h11
  by_cases h13:k=13
  ·subst h13
   go_enter Tryz.func31,Tryz.ntmps31;go_wp2_with fail;go_ret;exact⟨rfl,zal⟩
  ·have n13:(k==13)=false:=by rw[zna];exact h13
   by_cases h7:k=7
   ·subst h7
    go_enter Tryz.func31,Tryz.ntmps31;go_wp2_with fail;go_ret;exact⟨rfl,zal⟩
   ·have n7:(k==7)=false:=by rw[zna];exact h7
    by_cases h16:k=16
    ·subst h16
     go_enter Tryz.func31,Tryz.ntmps31;go_wp2_with fail;go_ret;exact⟨rfl,zal⟩
    ·have n16:(k==16)=false:=by rw[zna];exact h16
     by_cases h17:k=17
     ·subst h17
      go_enter Tryz.func31,Tryz.ntmps31;go_wp2_with fail;go_ret;exact⟨rfl,zal⟩
     ·have n17:(k==17)=false:=by rw[zna];exact h17
      by_cases h21:k=21
      ·subst h21
       go_enter Tryz.func31,Tryz.ntmps31;go_wp2_with fail;go_ret;exact⟨rfl,zal⟩
      ·have n21:(k==21)=false:=by rw[zna];exact h21
       have HE:=zhd (show yb7 k=false by unfold yb7;exact znd (by omega));clear h11 h13 h7 h16 h17 h21;go_enter Tryz.func31,Tryz.ntmps31;go_wp2_with fail;go_ret;exact⟨by rw[HE.o];rfl,zal⟩
def yh6 (e f:Ev):Bool:=(e.id==f.id)&&((e.time==f.time)&&((e.kind==f.kind)&&((e.a==f.a)&&((e.b==f.b)&&(decide (e.name=f.name)&&(decide (e.text=f.text)&&(cmpV e.v f.v==0)))))))
theorem yfN (id t k a b:Int)(nm tx:ByteArray)(vk vn:Int)(vs:ByteArray)(la:Option Addr)(ln lc:Nat)(id' t' k' a' b':Int)(nm' tx':ByteArray)(vk' vn':Int)(vs':ByteArray)(la':Option Addr)(ln' lc':Nat)(x y:Val)(F F':Nat→Prop)(W:World)(C:CF F W ⟨vk,vn,vs,la,ln,lc⟩ x)(D:CF F' W ⟨vk',vn',vs',la',ln',lc'⟩ y)(r:Bool)(hr:yh6 ⟨id,t,k,a,b,nm,tx,x⟩ ⟨id',t',k',a',b',nm',tx',y⟩=r):
  Calls Tryz.prog 117 #[.agg #[.int .i64 id,.int .i64 t,.int .i64 k,.int .i64 a,.int .i64 b,.string nm,.string tx,.int .i64 vk,.int .i64 vn,.string vs,.slice la ln lc],.agg #[.int .i64 id',.int .i64 t',.int .i64 k',.int .i64 a',.int .i64 b',.string nm',.string tx',.int .i64 vk',.int .i64 vn',.string vs',.slice la' ln' lc']] W (fun e w'=>e= .returned (.bool r)∧Below W.heap.size W w'):=by
 obtain⟨w0,hw0⟩:∃w0,w0=(W.alloc (.cells #[.int .i64 id,.int .i64 t,.int .i64 k,.int .i64 a,.int .i64 b,.string nm,.string tx,.int .i64 vk,.int .i64 vn,.string vs,.slice la ln lc] 40)).alloc (.cells #[.int .i64 id',.int .i64 t',.int .i64 k',.int .i64 a',.int .i64 b',.string nm',.string tx',.int .i64 vk',.int .i64 vn',.string vs',.slice la' ln' lc'] 40):=⟨_,rfl⟩;have B0:Below W.heap.size W w0:=by rw[hw0];exact(zal).alloc (by simp) _
 have hB:w0.heap[W.heap.size]? =some (.cells #[.int .i64 id,.int .i64 t,.int .i64 k,.int .i64 a,.int .i64 b,.string nm,.string tx,.int .i64 vk,.int .i64 vn,.string vs,.slice la ln lc] 40 (0,0)):=by rw[hw0];exact yaE
 have hD:w0.heap[W.heap.size+1]? =some (.cells #[.int .i64 id',.int .i64 t',.int .i64 k',.int .i64 a',.int .i64 b',.string nm',.string tx',.int .i64 vk',.int .i64 vn',.string vs',.slice la' ln' lc'] 40 (0,0)):=by rw[hw0];exact yar
 obtain⟨c0,c1,c2,c3,c4,c5,c6,c7,c8,c9,c10,cl,_⟩:=yaw hB;obtain⟨d0,d1,d2,d3,d4,d5,d6,d7,d8,d9,d10,dl,_⟩:=yaw hD;have SA:=zhd (yeW x y ⟨vk,vn,vs,la,ln,lc⟩ ⟨vk',vn',vs',la',ln',lc'⟩ F F' w0 (C.keep (S:=fun _=>False) (zkb B0) (fun _ _ f=>f)) (D.keep (S:=fun _=>False) (zkb B0) (fun _ _ f=>f)) _ rfl);have H0:=zhd B0;unfold yh6 at hr;dsimp only at hr;clear B0 hB hD C D;by_cases h0:id=id'
 ·subst h0
  rw[show(id==id)=true from beq_self_eq_true _,Bool.true_and]at hr;by_cases h1:t=t'
  ·subst h1
   rw[show(t==t)=true from beq_self_eq_true _,Bool.true_and]at hr;by_cases h2:k=k'
   ·subst h2
    rw[show(k==k)=true from beq_self_eq_true _,Bool.true_and]at hr;by_cases h3:a=a'
    ·subst h3
     rw[show(a==a)=true from beq_self_eq_true _,Bool.true_and]at hr;by_cases h4:b=b'
     ·subst h4
      rw[show(b==b)=true from beq_self_eq_true _,Bool.true_and]at hr;by_cases h5:nm=nm'
      ·subst h5
       rw[show decide (nm=nm)=true from zno rfl,Bool.true_and]at hr;by_cases h6:tx=tx'
       ·subst h6
        rw[show decide (tx=tx)=true from zno rfl,Bool.true_and]at hr;have HR:=zhd hr;clear hr;go_enter Tryz.func117,Tryz.ntmps117;go_wp2_with fail;rw[←hw0];clear hw0;go_wp2_with fail;refine SA.o.mono ?_;rintro e w1 ⟨rfl,hB1⟩;have H1:=zhd (H0.o.trans (hB1.mono H0.o.size));clear hB1 c0 c1 c2 c3 c4 c5 c6 c7 c8 c9 c10 d0 d1 d2 d3 d4 d5 d6 d7 d8 d9 d10 cl dl;go_wp2_with fail;go_ret;exact⟨by rw[←HR.o];rfl,H1.o⟩
       ·have n6:decide (tx=tx')=false:=znd h6
        have m6:(tx.toList==tx'.toList)=false:=by rw[zna,zml,zml];exact fun e=>h6 (yfW.1 e)
        rw[n6,Bool.false_and]at hr;have HR:=zhd hr;clear hr h6 SA;go_enter Tryz.func117,Tryz.ntmps117;go_wp2_with fail;rw[←hw0];clear hw0;go_wp2_with fail;go_ret;exact⟨by rw[←HR.o];rfl,H0.o⟩
      ·have n5:decide (nm=nm')=false:=znd h5
       have m5:(nm.toList==nm'.toList)=false:=by rw[zna,zml,zml];exact fun e=>h5 (yfW.1 e)
       rw[n5,Bool.false_and]at hr;have HR:=zhd hr;clear hr h5 SA;go_enter Tryz.func117,Tryz.ntmps117;go_wp2_with fail;rw[←hw0];clear hw0;go_wp2_with fail;go_ret;exact⟨by rw[←HR.o];rfl,H0.o⟩
     ·have n4:(b==b')=false:=by rw[zna];exact h4
      rw[n4,Bool.false_and]at hr;have HR:=zhd hr;clear hr h4 SA;go_enter Tryz.func117,Tryz.ntmps117;go_wp2_with fail;rw[←hw0];clear hw0;go_wp2_with fail;go_ret;exact⟨by rw[←HR.o];rfl,H0.o⟩
    ·have n3:(a==a')=false:=by rw[zna];exact h3
     rw[n3,Bool.false_and]at hr;have HR:=zhd hr;clear hr h3 SA;go_enter Tryz.func117,Tryz.ntmps117;go_wp2_with fail;rw[←hw0];clear hw0;go_wp2_with fail;go_ret;exact⟨by rw[←HR.o];rfl,H0.o⟩
   ·have n2:(k==k')=false:=by rw[zna];exact h2
    rw[n2,Bool.false_and]at hr;have HR:=zhd hr;clear hr h2 SA;go_enter Tryz.func117,Tryz.ntmps117;go_wp2_with fail;rw[←hw0];clear hw0;go_wp2_with fail;go_ret;exact⟨by rw[←HR.o];rfl,H0.o⟩
  ·have n1:(t==t')=false:=by rw[zna];exact h1
   rw[n1,Bool.false_and]at hr;have HR:=zhd hr;clear hr h1 SA;go_enter Tryz.func117,Tryz.ntmps117;go_wp2_with fail;rw[←hw0];clear hw0;go_wp2_with fail;go_ret;exact⟨by rw[←HR.o];rfl,H0.o⟩
 ·have n0:(id==id')=false:=by rw[zna];exact h0
  rw[n0,Bool.false_and]at hr;have HR:=zhd hr;clear hr h0 SA;go_enter Tryz.func117,Tryz.ntmps117;go_wp2_with fail;rw[←hw0];clear hw0;go_wp2_with fail;go_ret;exact⟨by rw[←HR.o];rfl,H0.o⟩
theorem yci {P:Program}{f:Func}{Q:Ending→World→Prop}{e:Exit}{a:Act}{W:World}(h:∀w,w=W→bodyPost P f Q e a w):bodyPost P f Q e a W:=h W rfl
theorem ybY {W:World}{X Y Z:Obj}:(((W.alloc X).alloc Y).alloc Z).heap[W.heap.size]? =some X∧(((W.alloc X).alloc Y).alloc Z).heap[W.heap.size+1]? =some Y∧(((W.alloc X).alloc Y).alloc Z).heap[W.heap.size+1+1]? =some Z:=by
 refine⟨(zne _ _ _ (by simp;omega)).trans yaE,(zne _ _ _ (by simp)).trans yar,?_⟩;have:=znb ((W.alloc X).alloc Y) Z;simpa using this
def yel (W:World)(c:Cm)(e:Ending)(w':World):Prop:=∃(vk vn:Int) (vs:ByteArray) (la:Option Addr) (ln lc:Nat),e= .returned (.agg #[.int .i64 (evOfC c).id,.int .i64 (evOfC c).time,.int .i64 (evOfC c).kind,.int .i64 (evOfC c).a,.int .i64 (evOfC c).b,.string (evOfC c).name,.string (evOfC c).text,.int .i64 vk,.int .i64 vn,.string vs,.slice la ln lc])∧Hid (CF (fun g=>W.heap.size≤g) w' ⟨vk,vn,vs,la,ln,lc⟩ (evOfC c).v∧Below W.heap.size W w')
theorem ymF
  (t a b:Int)(nm:ByteArray)(vk vn:Int)(vs:ByteArray)(la:Option Addr)(ln lc:Nat)(x:Val)(F:Nat→Prop)(W:World)(C:CF F W ⟨vk,vn,vs,la,ln,lc⟩ x)
  :
  Calls Tryz.prog 20 #[.agg #[.int .i64 2,.int .i64 t,.int .i64 a,.int .i64 b,.string nm,.int .i64 vk,.int .i64 vn,.string vs,.slice la ln lc]] W (yel W ⟨2,t,a,b,nm,x⟩)
  :=by
 have HE:=zhd (show evOfC ⟨2,t,a,b,nm,x⟩=⟨0,t,13,a,0,⟨#[]⟩,⟨#[]⟩,yai⟩ by unfold evOfC;rfl);obtain⟨wc,hwc⟩:∃wc,wc=((W.alloc (.cells #[.int .i64 2,.int .i64 t,.int .i64 a,.int .i64 b,.string nm,.int .i64 vk,.int .i64 vn,.string vs,.slice la ln lc] 52)).alloc (.cells #[.int .i64 0,.int .i64 0,.int .i64 0,.int .i64 0,.int .i64 0,.string ⟨#[]⟩,.string ⟨#[]⟩,.int .i64 0,.int .i64 0,.string ⟨#[]⟩,.slice none 0 0] 40)).alloc (.cells #[.int .i64 0,.int .i64 t,.int .i64 0,.int .i64 0,.int .i64 0,.string ⟨#[]⟩,.string ⟨#[]⟩,.int .i64 0,.int .i64 0,.string ⟨#[]⟩,.slice none 0 0] 40):=⟨_,rfl⟩;have hA:wc.heap[W.heap.size]? =some (.cells #[.int .i64 2,.int .i64 t,.int .i64 a,.int .i64 b,.string nm,.int .i64 vk,.int .i64 vn,.string vs,.slice la ln lc] 52 (0,0)):=by rw[hwc];exact ybY.1
 have hZ:wc.heap[W.heap.size+1]? =some (.cells #[.int .i64 0,.int .i64 0,.int .i64 0,.int .i64 0,.int .i64 0,.string ⟨#[]⟩,.string ⟨#[]⟩,.int .i64 0,.int .i64 0,.string ⟨#[]⟩,.slice none 0 0] 40 (0,0)):=by rw[hwc];exact ybY.2.1
 have hE:wc.heap[W.heap.size+1+1]? =some (.cells #[.int .i64 0,.int .i64 t,.int .i64 0,.int .i64 0,.int .i64 0,.string ⟨#[]⟩,.string ⟨#[]⟩,.int .i64 0,.int .i64 0,.string ⟨#[]⟩,.slice none 0 0] 40 (0,0)):=by rw[hwc];exact ybY.2.2
 have hsz:wc.heap.size=W.heap.size+3:=by rw[hwc];simp
 have B0:Below W.heap.size W wc:=by rw[hwc];exact((zal).alloc (by simp) _).alloc (by simp;omega) _
 have HB:=zh2 B0 hsz;obtain⟨c0,c1,c2,c3,c4,c5,c6,c7,c8,cl,_⟩:=yhP hA;obtain⟨z0,z1,z2,z3,z4,z5,z6,z7,z8,z9,z10,zl,zf⟩:=yaw hZ;obtain⟨e0,e1,e2,e3,e4,e5,e6,e7,e8,e9,e10,el,ef⟩:=yaw hE;have HH:=zh3 hA hZ hE;clear hA hZ hE hsz B0;clear C;go_enter Tryz.func20,Tryz.ntmps20;go_upto_region 3 with(fail);rw[←hwc];clear hwc;go_wp2_with fail;go_region
 all_goals
  go_upto_region 15 with(fail);refine yaa ?_;intro w2 hw2;have hE2:w2.heap[W.heap.size+1+1]? =some (.cells #[.int .i64 0,.int .i64 t,.int .i64 13,.int .i64 a,.int .i64 0,.string ⟨#[]⟩,.string ⟨#[]⟩,.int .i64 0,.int .i64 0,.string ⟨#[]⟩,.slice none 0 0] 40 (0,0)):=by
   rw[hw2];have:=HH.o.2.2;simp[World.setCell,World.drew,zni,this]
  have hZ2:w2.heap[W.heap.size+1]? =some (.cells #[.int .i64 0,.int .i64 0,.int .i64 0,.int .i64 0,.int .i64 0,.string ⟨#[]⟩,.string ⟨#[]⟩,.int .i64 0,.int .i64 0,.string ⟨#[]⟩,.slice none 0 0] 40 (0,0)):=by
   rw[hw2];have:=HH.o.2.1;simp[World.setCell,World.drew,zni,this]
  have K2:Keeps (fun j=>j=W.heap.size+1+1) wc w2:=by
   rw[hw2]
   repeat(first|with_reducible exact Keeps.refl _ _|with_reducible refine Keeps.drew ?_|(refine Keeps.setCell ?_ (Or.inl ?h) _;case h=>rfl))
  clear z0 z1 z2 z3 z4 z5 z6 z7 z8 z9 z10 zl zf e0 e1 e2 e3 e4 e5 e6 e7 e8 e9 e10 el ef hw2;obtain⟨z0,z1,z2,z3,z4,z5,z6,z7,z8,z9,z10,zl,zf⟩:=yaw hZ2;obtain⟨e0,e1,e2,e3,e4,e5,e6,e7,e8,e9,e10,el,ef⟩:=yaw hE2;have HK:=zhd K2;have HZ2:=zhd hZ2;clear hE2 hZ2 K2;go_wp2_with fail;refine yci ?_;intro w3 hw3;have hZ3:w3.heap[W.heap.size+1]? =some (.cells #[.int .i64 0,.int .i64 t,.int .i64 13,.int .i64 a,.int .i64 0,.string ⟨#[]⟩,.string ⟨#[]⟩,.int .i64 0,.int .i64 0,.string ⟨#[]⟩,.slice none 0 0] 40 (0,0)):=by
   rw[hw3];have:=HZ2.o;simp[World.setCell,zni,this]
  have K3:Keeps (fun j=>j=W.heap.size+1) w2 w3:=by
   rw[hw3]
   repeat(first|with_reducible exact Keeps.refl _ _|(refine Keeps.setCell ?_ (Or.inl ?h) _;case h=>rfl))
  clear hw3 z0 z1 z2 z3 z4 z5 z6 z7 z8 z9 z10 zl zf e0 e1 e2 e3 e4 e5 e6 e7 e8 e9 e10 el ef;obtain⟨z0,z1,z2,z3,z4,z5,z6,z7,z8,z9,z10,zl,zf⟩:=yaw hZ3;refine zng (v:=.agg #[.int .i64 0,.int .i64 t,.int .i64 13,.int .i64 a,.int .i64 0,.string ⟨#[]⟩,.string ⟨#[]⟩,.int .i64 0,.int .i64 0,.string ⟨#[]⟩,.slice none 0 0]) (by simp only[results,Tryz.results20];go_simp) rfl ?_;have h1:=HB.o.1;have h2:=HB.o.2;have h3:=h1.trans (HK.o.below h1.size (fun j hj e=>by omega));exact⟨_,_,_,_,_,_,by rw[HE.o],zhd ⟨by rw[HE.o];exact yaD _ _,h3.trans (K3.below h3.size (fun j hj e=>by omega))⟩⟩
theorem ymC
  (t a b:Int)(nm:ByteArray)(vk vn:Int)(vs:ByteArray)(la:Option Addr)(ln lc:Nat)(x:Val)(F:Nat→Prop)(W:World)(C:CF F W ⟨vk,vn,vs,la,ln,lc⟩ x)
  :
  Calls Tryz.prog 20 #[.agg #[.int .i64 5,.int .i64 t,.int .i64 a,.int .i64 b,.string nm,.int .i64 vk,.int .i64 vn,.string vs,.slice la ln lc]] W (yel W ⟨5,t,a,b,nm,x⟩)
  :=by
 have HE:=zhd (show evOfC ⟨5,t,a,b,nm,x⟩=⟨0,t,17,0,0,nm,⟨#[]⟩,yai⟩ by unfold evOfC;rfl);obtain⟨wc,hwc⟩:∃wc,wc=((W.alloc (.cells #[.int .i64 5,.int .i64 t,.int .i64 a,.int .i64 b,.string nm,.int .i64 vk,.int .i64 vn,.string vs,.slice la ln lc] 52)).alloc (.cells #[.int .i64 0,.int .i64 0,.int .i64 0,.int .i64 0,.int .i64 0,.string ⟨#[]⟩,.string ⟨#[]⟩,.int .i64 0,.int .i64 0,.string ⟨#[]⟩,.slice none 0 0] 40)).alloc (.cells #[.int .i64 0,.int .i64 t,.int .i64 0,.int .i64 0,.int .i64 0,.string ⟨#[]⟩,.string ⟨#[]⟩,.int .i64 0,.int .i64 0,.string ⟨#[]⟩,.slice none 0 0] 40):=⟨_,rfl⟩;have hA:wc.heap[W.heap.size]? =some (.cells #[.int .i64 5,.int .i64 t,.int .i64 a,.int .i64 b,.string nm,.int .i64 vk,.int .i64 vn,.string vs,.slice la ln lc] 52 (0,0)):=by rw[hwc];exact ybY.1
 have hZ:wc.heap[W.heap.size+1]? =some (.cells #[.int .i64 0,.int .i64 0,.int .i64 0,.int .i64 0,.int .i64 0,.string ⟨#[]⟩,.string ⟨#[]⟩,.int .i64 0,.int .i64 0,.string ⟨#[]⟩,.slice none 0 0] 40 (0,0)):=by rw[hwc];exact ybY.2.1
 have hE:wc.heap[W.heap.size+1+1]? =some (.cells #[.int .i64 0,.int .i64 t,.int .i64 0,.int .i64 0,.int .i64 0,.string ⟨#[]⟩,.string ⟨#[]⟩,.int .i64 0,.int .i64 0,.string ⟨#[]⟩,.slice none 0 0] 40 (0,0)):=by rw[hwc];exact ybY.2.2
 have hsz:wc.heap.size=W.heap.size+3:=by rw[hwc];simp
 have B0:Below W.heap.size W wc:=by rw[hwc];exact((zal).alloc (by simp) _).alloc (by simp;omega) _
 have HB:=zh2 B0 hsz;obtain⟨c0,c1,c2,c3,c4,c5,c6,c7,c8,cl,_⟩:=yhP hA;obtain⟨z0,z1,z2,z3,z4,z5,z6,z7,z8,z9,z10,zl,zf⟩:=yaw hZ;obtain⟨e0,e1,e2,e3,e4,e5,e6,e7,e8,e9,e10,el,ef⟩:=yaw hE;have HH:=zh3 hA hZ hE;clear hA hZ hE hsz B0;clear C;go_enter Tryz.func20,Tryz.ntmps20;go_upto_region 3 with(fail);rw[←hwc];clear hwc;go_wp2_with fail;go_region
 all_goals
  go_upto_region 15 with(fail);refine yaa ?_;intro w2 hw2;have hE2:w2.heap[W.heap.size+1+1]? =some (.cells #[.int .i64 0,.int .i64 t,.int .i64 17,.int .i64 0,.int .i64 0,.string nm,.string ⟨#[]⟩,.int .i64 0,.int .i64 0,.string ⟨#[]⟩,.slice none 0 0] 40 (0,0)):=by
   rw[hw2];have:=HH.o.2.2;simp[World.setCell,World.drew,zni,this]
  have hZ2:w2.heap[W.heap.size+1]? =some (.cells #[.int .i64 0,.int .i64 0,.int .i64 0,.int .i64 0,.int .i64 0,.string ⟨#[]⟩,.string ⟨#[]⟩,.int .i64 0,.int .i64 0,.string ⟨#[]⟩,.slice none 0 0] 40 (0,0)):=by
   rw[hw2];have:=HH.o.2.1;simp[World.setCell,World.drew,zni,this]
  have K2:Keeps (fun j=>j=W.heap.size+1+1) wc w2:=by
   rw[hw2]
   repeat(first|with_reducible exact Keeps.refl _ _|with_reducible refine Keeps.drew ?_|(refine Keeps.setCell ?_ (Or.inl ?h) _;case h=>rfl))
  clear z0 z1 z2 z3 z4 z5 z6 z7 z8 z9 z10 zl zf e0 e1 e2 e3 e4 e5 e6 e7 e8 e9 e10 el ef hw2;obtain⟨z0,z1,z2,z3,z4,z5,z6,z7,z8,z9,z10,zl,zf⟩:=yaw hZ2;obtain⟨e0,e1,e2,e3,e4,e5,e6,e7,e8,e9,e10,el,ef⟩:=yaw hE2;have HK:=zhd K2;have HZ2:=zhd hZ2;clear hE2 hZ2 K2;go_wp2_with fail;refine yci ?_;intro w3 hw3;have hZ3:w3.heap[W.heap.size+1]? =some (.cells #[.int .i64 0,.int .i64 t,.int .i64 17,.int .i64 0,.int .i64 0,.string nm,.string ⟨#[]⟩,.int .i64 0,.int .i64 0,.string ⟨#[]⟩,.slice none 0 0] 40 (0,0)):=by
   rw[hw3];have:=HZ2.o;simp[World.setCell,zni,this]
  have K3:Keeps (fun j=>j=W.heap.size+1) w2 w3:=by
   rw[hw3]
   repeat(first|with_reducible exact Keeps.refl _ _|(refine Keeps.setCell ?_ (Or.inl ?h) _;case h=>rfl))
  clear hw3 z0 z1 z2 z3 z4 z5 z6 z7 z8 z9 z10 zl zf e0 e1 e2 e3 e4 e5 e6 e7 e8 e9 e10 el ef;obtain⟨z0,z1,z2,z3,z4,z5,z6,z7,z8,z9,z10,zl,zf⟩:=yaw hZ3;refine zng (v:=.agg #[.int .i64 0,.int .i64 t,.int .i64 17,.int .i64 0,.int .i64 0,.string nm,.string ⟨#[]⟩,.int .i64 0,.int .i64 0,.string ⟨#[]⟩,.slice none 0 0]) (by simp only[results,Tryz.results20];go_simp) rfl ?_;have h1:=HB.o.1;have h2:=HB.o.2;have h3:=h1.trans (HK.o.below h1.size (fun j hj e=>by omega));exact⟨_,_,_,_,_,_,by rw[HE.o],zhd ⟨by rw[HE.o];exact yaD _ _,h3.trans (K3.below h3.size (fun j hj e=>by omega))⟩⟩
theorem ymG
  (t a b:Int)(nm:ByteArray)(vk vn:Int)(vs:ByteArray)(la:Option Addr)(ln lc:Nat)(x:Val)(F:Nat→Prop)(W:World)(C:CF F W ⟨vk,vn,vs,la,ln,lc⟩ x)
  (ht:0≤t)(hb:0≤b)(ht2:t≤4611686018427387903):
  Calls Tryz.prog 20 #[.agg #[.int .i64 1,.int .i64 t,.int .i64 a,.int .i64 b,.string nm,.int .i64 vk,.int .i64 vn,.string vs,.slice la ln lc]] W (yel W ⟨1,t,a,b,nm,x⟩)
  :=by
 have HE:=zhd (show evOfC ⟨1,t,a,b,nm,x⟩=⟨0,t,11,a,yiR t b,⟨#[]⟩,⟨#[]⟩,yai⟩ by unfold evOfC;rfl);have SA:=zhd (fun W=>ylW t b W ht hb ht2);obtain⟨wc,hwc⟩:∃wc,wc=((W.alloc (.cells #[.int .i64 1,.int .i64 t,.int .i64 a,.int .i64 b,.string nm,.int .i64 vk,.int .i64 vn,.string vs,.slice la ln lc] 52)).alloc (.cells #[.int .i64 0,.int .i64 0,.int .i64 0,.int .i64 0,.int .i64 0,.string ⟨#[]⟩,.string ⟨#[]⟩,.int .i64 0,.int .i64 0,.string ⟨#[]⟩,.slice none 0 0] 40)).alloc (.cells #[.int .i64 0,.int .i64 t,.int .i64 0,.int .i64 0,.int .i64 0,.string ⟨#[]⟩,.string ⟨#[]⟩,.int .i64 0,.int .i64 0,.string ⟨#[]⟩,.slice none 0 0] 40):=⟨_,rfl⟩;have hA:wc.heap[W.heap.size]? =some (.cells #[.int .i64 1,.int .i64 t,.int .i64 a,.int .i64 b,.string nm,.int .i64 vk,.int .i64 vn,.string vs,.slice la ln lc] 52 (0,0)):=by rw[hwc];exact ybY.1
 have hZ:wc.heap[W.heap.size+1]? =some (.cells #[.int .i64 0,.int .i64 0,.int .i64 0,.int .i64 0,.int .i64 0,.string ⟨#[]⟩,.string ⟨#[]⟩,.int .i64 0,.int .i64 0,.string ⟨#[]⟩,.slice none 0 0] 40 (0,0)):=by rw[hwc];exact ybY.2.1
 have hE:wc.heap[W.heap.size+1+1]? =some (.cells #[.int .i64 0,.int .i64 t,.int .i64 0,.int .i64 0,.int .i64 0,.string ⟨#[]⟩,.string ⟨#[]⟩,.int .i64 0,.int .i64 0,.string ⟨#[]⟩,.slice none 0 0] 40 (0,0)):=by rw[hwc];exact ybY.2.2
 have hsz:wc.heap.size=W.heap.size+3:=by rw[hwc];simp
 have B0:Below W.heap.size W wc:=by rw[hwc];exact((zal).alloc (by simp) _).alloc (by simp;omega) _
 have HB:=zh2 B0 hsz;obtain⟨c0,c1,c2,c3,c4,c5,c6,c7,c8,cl,_⟩:=yhP hA;obtain⟨z0,z1,z2,z3,z4,z5,z6,z7,z8,z9,z10,zl,zf⟩:=yaw hZ;obtain⟨e0,e1,e2,e3,e4,e5,e6,e7,e8,e9,e10,el,ef⟩:=yaw hE;have HH:=zh3 hA hZ hE;clear hA hZ hE hsz B0;clear C ht hb ht2;go_enter Tryz.func20,Tryz.ntmps20;go_upto_region 3 with(fail);rw[←hwc];clear hwc;go_upto_region 4 with(fail);go_region_law ((go_simp;go_at_call 57;refine(SA.o _).mono ?_;rintro e w1 ⟨rfl,hw⟩;subst hw))
 all_goals
  go_upto_region 15 with(fail);refine yaa ?_;intro w2 hw2;have hE2:w2.heap[W.heap.size+1+1]? =some (.cells #[.int .i64 0,.int .i64 t,.int .i64 11,.int .i64 a,.int .i64 (yiR t b),.string ⟨#[]⟩,.string ⟨#[]⟩,.int .i64 0,.int .i64 0,.string ⟨#[]⟩,.slice none 0 0] 40 (0,0)):=by
   rw[hw2];have:=HH.o.2.2;simp[World.setCell,World.drew,zni,this]
  have hZ2:w2.heap[W.heap.size+1]? =some (.cells #[.int .i64 0,.int .i64 0,.int .i64 0,.int .i64 0,.int .i64 0,.string ⟨#[]⟩,.string ⟨#[]⟩,.int .i64 0,.int .i64 0,.string ⟨#[]⟩,.slice none 0 0] 40 (0,0)):=by
   rw[hw2];have:=HH.o.2.1;simp[World.setCell,World.drew,zni,this]
  have K2:Keeps (fun j=>j=W.heap.size+1+1) wc w2:=by
   rw[hw2]
   repeat(first|with_reducible exact Keeps.refl _ _|with_reducible refine Keeps.drew ?_|(refine Keeps.setCell ?_ (Or.inl ?h) _;case h=>rfl))
  clear z0 z1 z2 z3 z4 z5 z6 z7 z8 z9 z10 zl zf e0 e1 e2 e3 e4 e5 e6 e7 e8 e9 e10 el ef hw2;obtain⟨z0,z1,z2,z3,z4,z5,z6,z7,z8,z9,z10,zl,zf⟩:=yaw hZ2;obtain⟨e0,e1,e2,e3,e4,e5,e6,e7,e8,e9,e10,el,ef⟩:=yaw hE2;have HK:=zhd K2;have HZ2:=zhd hZ2;clear hE2 hZ2 K2;go_wp2_with fail;refine yci ?_;intro w3 hw3;have hZ3:w3.heap[W.heap.size+1]? =some (.cells #[.int .i64 0,.int .i64 t,.int .i64 11,.int .i64 a,.int .i64 (yiR t b),.string ⟨#[]⟩,.string ⟨#[]⟩,.int .i64 0,.int .i64 0,.string ⟨#[]⟩,.slice none 0 0] 40 (0,0)):=by
   rw[hw3];have:=HZ2.o;simp[World.setCell,zni,this]
  have K3:Keeps (fun j=>j=W.heap.size+1) w2 w3:=by
   rw[hw3]
   repeat(first|with_reducible exact Keeps.refl _ _|(refine Keeps.setCell ?_ (Or.inl ?h) _;case h=>rfl))
  clear hw3 z0 z1 z2 z3 z4 z5 z6 z7 z8 z9 z10 zl zf e0 e1 e2 e3 e4 e5 e6 e7 e8 e9 e10 el ef;obtain⟨z0,z1,z2,z3,z4,z5,z6,z7,z8,z9,z10,zl,zf⟩:=yaw hZ3;refine zng (v:=.agg #[.int .i64 0,.int .i64 t,.int .i64 11,.int .i64 a,.int .i64 (yiR t b),.string ⟨#[]⟩,.string ⟨#[]⟩,.int .i64 0,.int .i64 0,.string ⟨#[]⟩,.slice none 0 0]) (by simp only[results,Tryz.results20];go_simp) rfl ?_;have h1:=HB.o.1;have h2:=HB.o.2;have h3:=h1.trans (HK.o.below h1.size (fun j hj e=>by omega));exact⟨_,_,_,_,_,_,by rw[HE.o],zhd ⟨by rw[HE.o];exact yaD _ _,h3.trans (K3.below h3.size (fun j hj e=>by omega))⟩⟩
theorem ymD
  (t a b:Int)(nm:ByteArray)(vk vn:Int)(vs:ByteArray)(la:Option Addr)(ln lc:Nat)(x:Val)(F:Nat→Prop)(W:World)(C:CF F W ⟨vk,vn,vs,la,ln,lc⟩ x)
  (hz:szV x≤1073741824):
  Calls Tryz.prog 20 #[.agg #[.int .i64 4,.int .i64 t,.int .i64 a,.int .i64 b,.string nm,.int .i64 vk,.int .i64 vn,.string vs,.slice la ln lc]] W (yel W ⟨4,t,a,b,nm,x⟩)
  :=by
 have HE:=zhd (show evOfC ⟨4,t,a,b,nm,x⟩=⟨0,t,16,0,0,⟨#[]⟩,⟨#[]⟩,yab x⟩ by unfold evOfC;rfl);obtain⟨wc,hwc⟩:∃wc,wc=((W.alloc (.cells #[.int .i64 4,.int .i64 t,.int .i64 a,.int .i64 b,.string nm,.int .i64 vk,.int .i64 vn,.string vs,.slice la ln lc] 52)).alloc (.cells #[.int .i64 0,.int .i64 0,.int .i64 0,.int .i64 0,.int .i64 0,.string ⟨#[]⟩,.string ⟨#[]⟩,.int .i64 0,.int .i64 0,.string ⟨#[]⟩,.slice none 0 0] 40)).alloc (.cells #[.int .i64 0,.int .i64 t,.int .i64 0,.int .i64 0,.int .i64 0,.string ⟨#[]⟩,.string ⟨#[]⟩,.int .i64 0,.int .i64 0,.string ⟨#[]⟩,.slice none 0 0] 40):=⟨_,rfl⟩;have hA:wc.heap[W.heap.size]? =some (.cells #[.int .i64 4,.int .i64 t,.int .i64 a,.int .i64 b,.string nm,.int .i64 vk,.int .i64 vn,.string vs,.slice la ln lc] 52 (0,0)):=by rw[hwc];exact ybY.1
 have hZ:wc.heap[W.heap.size+1]? =some (.cells #[.int .i64 0,.int .i64 0,.int .i64 0,.int .i64 0,.int .i64 0,.string ⟨#[]⟩,.string ⟨#[]⟩,.int .i64 0,.int .i64 0,.string ⟨#[]⟩,.slice none 0 0] 40 (0,0)):=by rw[hwc];exact ybY.2.1
 have hE:wc.heap[W.heap.size+1+1]? =some (.cells #[.int .i64 0,.int .i64 t,.int .i64 0,.int .i64 0,.int .i64 0,.string ⟨#[]⟩,.string ⟨#[]⟩,.int .i64 0,.int .i64 0,.string ⟨#[]⟩,.slice none 0 0] 40 (0,0)):=by rw[hwc];exact ybY.2.2
 have hsz:wc.heap.size=W.heap.size+3:=by rw[hwc];simp
 have B0:Below W.heap.size W wc:=by rw[hwc];exact((zal).alloc (by simp) _).alloc (by simp;omega) _
 have HB:=zh2 B0 hsz;obtain⟨c0,c1,c2,c3,c4,c5,c6,c7,c8,cl,_⟩:=yhP hA;obtain⟨z0,z1,z2,z3,z4,z5,z6,z7,z8,z9,z10,zl,zf⟩:=yaw hZ;obtain⟨e0,e1,e2,e3,e4,e5,e6,e7,e8,e9,e10,el,ef⟩:=yaw hE;have HH:=zh3 hA hZ hE;clear hA hZ hE hsz B0;have CL:=zhd (yav x vk vn vs la ln lc _ wc (C.keep (S:=fun _=>False) (zkb HB.o.1) (fun _ _ f=>f)) hz);clear C hz;go_enter Tryz.func20,Tryz.ntmps20;go_upto_region 3 with(fail);rw[←hwc];clear hwc;go_wp2_with fail;refine CL.o.mono ?_;rintro e w1 ⟨⟨k8,n8,s8,la8,ln8,lc8⟩,rfl,H1⟩;have hZ1:=(H1.o.2.block (W.heap.size+1) (by rw[HB.o.2];omega)).trans HH.o.2.1;have hE1:=(H1.o.2.block (W.heap.size+1+1) (by rw[HB.o.2];omega)).trans HH.o.2.2;clear c0 c1 c2 c3 c4 c5 c6 c7 c8 cl z0 z1 z2 z3 z4 z5 z6 z7 z8 z9 z10 zl zf e0 e1 e2 e3 e4 e5 e6 e7 e8 e9 e10 el ef;obtain⟨z0,z1,z2,z3,z4,z5,z6,z7,z8,z9,z10,zl,zf⟩:=yaw hZ1;obtain⟨e0,e1,e2,e3,e4,e5,e6,e7,e8,e9,e10,el,ef⟩:=yaw hE1;have HZ1:=zhd hZ1;have HE1:=zhd hE1;clear hZ1 hE1;go_upto_region 15 with(fail);refine yaa ?_;intro w2 hw2
 have hE2:w2.heap[W.heap.size+1+1]? =some (.cells #[.int .i64 0,.int .i64 t,.int .i64 16,.int .i64 0,.int .i64 0,.string ⟨#[]⟩,.string ⟨#[]⟩,.int .i64 k8,.int .i64 n8,.string s8,.slice la8 ln8 lc8] 40 (0,0)):=by
  rw[hw2];have:=HE1.o;simp[World.setCell,World.drew,zni,this]
 have hZ2:w2.heap[W.heap.size+1]? =some (.cells #[.int .i64 0,.int .i64 0,.int .i64 0,.int .i64 0,.int .i64 0,.string ⟨#[]⟩,.string ⟨#[]⟩,.int .i64 0,.int .i64 0,.string ⟨#[]⟩,.slice none 0 0] 40 (0,0)):=by
  rw[hw2];have:=HZ1.o;simp[World.setCell,World.drew,zni,this]
 have K2:Keeps (fun j=>j=W.heap.size+1+1) w1 w2:=by
  rw[hw2]
  repeat(first|with_reducible exact Keeps.refl _ _|with_reducible refine Keeps.drew ?_|(refine Keeps.setCell ?_ (Or.inl ?h) _;case h=>rfl))
 clear z0 z1 z2 z3 z4 z5 z6 z7 z8 z9 z10 zl zf e0 e1 e2 e3 e4 e5 e6 e7 e8 e9 e10 el ef hw2;obtain⟨z0,z1,z2,z3,z4,z5,z6,z7,z8,z9,z10,zl,zf⟩:=yaw hZ2;obtain⟨e0,e1,e2,e3,e4,e5,e6,e7,e8,e9,e10,el,ef⟩:=yaw hE2;have HK:=zhd K2;have HZ2:=zhd hZ2;clear hE2 hZ2 K2;go_wp2_with fail;refine yci ?_;intro w3 hw3;have hZ3:w3.heap[W.heap.size+1]? =some (.cells #[.int .i64 0,.int .i64 t,.int .i64 16,.int .i64 0,.int .i64 0,.string ⟨#[]⟩,.string ⟨#[]⟩,.int .i64 k8,.int .i64 n8,.string s8,.slice la8 ln8 lc8] 40 (0,0)):=by
  rw[hw3];have:=HZ2.o;simp[World.setCell,zni,this]
 have K3:Keeps (fun j=>j=W.heap.size+1) w2 w3:=by
  rw[hw3]
  repeat(first|with_reducible exact Keeps.refl _ _|(refine Keeps.setCell ?_ (Or.inl ?h) _;case h=>rfl))
 clear hw3 z0 z1 z2 z3 z4 z5 z6 z7 z8 z9 z10 zl zf e0 e1 e2 e3 e4 e5 e6 e7 e8 e9 e10 el ef;obtain⟨z0,z1,z2,z3,z4,z5,z6,z7,z8,z9,z10,zl,zf⟩:=yaw hZ3;refine zng (v:=.agg #[.int .i64 0,.int .i64 t,.int .i64 16,.int .i64 0,.int .i64 0,.string ⟨#[]⟩,.string ⟨#[]⟩,.int .i64 k8,.int .i64 n8,.string s8,.slice la8 ln8 lc8]) (by simp only[results,Tryz.results20];go_simp) rfl ?_;have h1:=HB.o.1;have hq:=HB.o.2;have h2:=h1.trans (((znv wc.heap.size wc).trans H1.o.2).mono h1.size);have h3:=h2.trans (HK.o.below h2.size (fun j hj e=>by omega));have hC:=H1.o.1.mono (G:=fun g=>W.heap.size+3≤g) (fun g hg _=>by have hg:wc.heap.size≤g:=hg;have e:wc.heap.size=wc.heap.size:=rfl;omega);have hC2:=(hC.keep HK.o (fun g hg e=>by have hg:W.heap.size+3≤g:=hg;omega)).keep K3 (fun g hg e=>by have hg:W.heap.size+3≤g:=hg;omega);exact⟨_,_,_,_,_,_,by rw[HE.o],zhd ⟨by rw[HE.o];exact hC2.mono (fun g hg _=>by have hg:W.heap.size+3≤g:=hg;show W.heap.size≤g;omega),h3.trans (K3.below h3.size (fun j hj e=>by omega))⟩⟩
theorem ymB
  (t a b:Int)(nm:ByteArray)(vk vn:Int)(vs:ByteArray)(la:Option Addr)(ln lc:Nat)(x:Val)(F:Nat→Prop)(W:World)(C:CF F W ⟨vk,vn,vs,la,ln,lc⟩ x)
  (hz:szV x≤1073741824):
  Calls Tryz.prog 20 #[.agg #[.int .i64 6,.int .i64 t,.int .i64 a,.int .i64 b,.string nm,.int .i64 vk,.int .i64 vn,.string vs,.slice la ln lc]] W (yel W ⟨6,t,a,b,nm,x⟩)
  :=by
 have HE:=zhd (show evOfC ⟨6,t,a,b,nm,x⟩=⟨0,t,21,0,0,⟨#[]⟩,⟨#[]⟩,yab x⟩ by unfold evOfC;rfl);obtain⟨wc,hwc⟩:∃wc,wc=((W.alloc (.cells #[.int .i64 6,.int .i64 t,.int .i64 a,.int .i64 b,.string nm,.int .i64 vk,.int .i64 vn,.string vs,.slice la ln lc] 52)).alloc (.cells #[.int .i64 0,.int .i64 0,.int .i64 0,.int .i64 0,.int .i64 0,.string ⟨#[]⟩,.string ⟨#[]⟩,.int .i64 0,.int .i64 0,.string ⟨#[]⟩,.slice none 0 0] 40)).alloc (.cells #[.int .i64 0,.int .i64 t,.int .i64 0,.int .i64 0,.int .i64 0,.string ⟨#[]⟩,.string ⟨#[]⟩,.int .i64 0,.int .i64 0,.string ⟨#[]⟩,.slice none 0 0] 40):=⟨_,rfl⟩;have hA:wc.heap[W.heap.size]? =some (.cells #[.int .i64 6,.int .i64 t,.int .i64 a,.int .i64 b,.string nm,.int .i64 vk,.int .i64 vn,.string vs,.slice la ln lc] 52 (0,0)):=by rw[hwc];exact ybY.1
 have hZ:wc.heap[W.heap.size+1]? =some (.cells #[.int .i64 0,.int .i64 0,.int .i64 0,.int .i64 0,.int .i64 0,.string ⟨#[]⟩,.string ⟨#[]⟩,.int .i64 0,.int .i64 0,.string ⟨#[]⟩,.slice none 0 0] 40 (0,0)):=by rw[hwc];exact ybY.2.1
 have hE:wc.heap[W.heap.size+1+1]? =some (.cells #[.int .i64 0,.int .i64 t,.int .i64 0,.int .i64 0,.int .i64 0,.string ⟨#[]⟩,.string ⟨#[]⟩,.int .i64 0,.int .i64 0,.string ⟨#[]⟩,.slice none 0 0] 40 (0,0)):=by rw[hwc];exact ybY.2.2
 have hsz:wc.heap.size=W.heap.size+3:=by rw[hwc];simp
 have B0:Below W.heap.size W wc:=by rw[hwc];exact((zal).alloc (by simp) _).alloc (by simp;omega) _
 have HB:=zh2 B0 hsz;obtain⟨c0,c1,c2,c3,c4,c5,c6,c7,c8,cl,_⟩:=yhP hA;obtain⟨z0,z1,z2,z3,z4,z5,z6,z7,z8,z9,z10,zl,zf⟩:=yaw hZ;obtain⟨e0,e1,e2,e3,e4,e5,e6,e7,e8,e9,e10,el,ef⟩:=yaw hE;have HH:=zh3 hA hZ hE;clear hA hZ hE hsz B0;have CL:=zhd (yav x vk vn vs la ln lc _ wc (C.keep (S:=fun _=>False) (zkb HB.o.1) (fun _ _ f=>f)) hz);clear C hz;go_enter Tryz.func20,Tryz.ntmps20;go_upto_region 3 with(fail);rw[←hwc];clear hwc;go_wp2_with fail;refine CL.o.mono ?_;rintro e w1 ⟨⟨k8,n8,s8,la8,ln8,lc8⟩,rfl,H1⟩;have hZ1:=(H1.o.2.block (W.heap.size+1) (by rw[HB.o.2];omega)).trans HH.o.2.1;have hE1:=(H1.o.2.block (W.heap.size+1+1) (by rw[HB.o.2];omega)).trans HH.o.2.2;clear c0 c1 c2 c3 c4 c5 c6 c7 c8 cl z0 z1 z2 z3 z4 z5 z6 z7 z8 z9 z10 zl zf e0 e1 e2 e3 e4 e5 e6 e7 e8 e9 e10 el ef;obtain⟨z0,z1,z2,z3,z4,z5,z6,z7,z8,z9,z10,zl,zf⟩:=yaw hZ1;obtain⟨e0,e1,e2,e3,e4,e5,e6,e7,e8,e9,e10,el,ef⟩:=yaw hE1;have HZ1:=zhd hZ1;have HE1:=zhd hE1;clear hZ1 hE1;go_upto_region 15 with(fail);refine yaa ?_;intro w2 hw2
 have hE2:w2.heap[W.heap.size+1+1]? =some (.cells #[.int .i64 0,.int .i64 t,.int .i64 21,.int .i64 0,.int .i64 0,.string ⟨#[]⟩,.string ⟨#[]⟩,.int .i64 k8,.int .i64 n8,.string s8,.slice la8 ln8 lc8] 40 (0,0)):=by
  rw[hw2];have:=HE1.o;simp[World.setCell,World.drew,zni,this]
 have hZ2:w2.heap[W.heap.size+1]? =some (.cells #[.int .i64 0,.int .i64 0,.int .i64 0,.int .i64 0,.int .i64 0,.string ⟨#[]⟩,.string ⟨#[]⟩,.int .i64 0,.int .i64 0,.string ⟨#[]⟩,.slice none 0 0] 40 (0,0)):=by
  rw[hw2];have:=HZ1.o;simp[World.setCell,World.drew,zni,this]
 have K2:Keeps (fun j=>j=W.heap.size+1+1) w1 w2:=by
  rw[hw2]
  repeat(first|with_reducible exact Keeps.refl _ _|with_reducible refine Keeps.drew ?_|(refine Keeps.setCell ?_ (Or.inl ?h) _;case h=>rfl))
 clear z0 z1 z2 z3 z4 z5 z6 z7 z8 z9 z10 zl zf e0 e1 e2 e3 e4 e5 e6 e7 e8 e9 e10 el ef hw2;obtain⟨z0,z1,z2,z3,z4,z5,z6,z7,z8,z9,z10,zl,zf⟩:=yaw hZ2;obtain⟨e0,e1,e2,e3,e4,e5,e6,e7,e8,e9,e10,el,ef⟩:=yaw hE2;have HK:=zhd K2;have HZ2:=zhd hZ2;clear hE2 hZ2 K2;go_wp2_with fail;refine yci ?_;intro w3 hw3;have hZ3:w3.heap[W.heap.size+1]? =some (.cells #[.int .i64 0,.int .i64 t,.int .i64 21,.int .i64 0,.int .i64 0,.string ⟨#[]⟩,.string ⟨#[]⟩,.int .i64 k8,.int .i64 n8,.string s8,.slice la8 ln8 lc8] 40 (0,0)):=by
  rw[hw3];have:=HZ2.o;simp[World.setCell,zni,this]
 have K3:Keeps (fun j=>j=W.heap.size+1) w2 w3:=by
  rw[hw3]
  repeat(first|with_reducible exact Keeps.refl _ _|(refine Keeps.setCell ?_ (Or.inl ?h) _;case h=>rfl))
 clear hw3 z0 z1 z2 z3 z4 z5 z6 z7 z8 z9 z10 zl zf e0 e1 e2 e3 e4 e5 e6 e7 e8 e9 e10 el ef;obtain⟨z0,z1,z2,z3,z4,z5,z6,z7,z8,z9,z10,zl,zf⟩:=yaw hZ3;refine zng (v:=.agg #[.int .i64 0,.int .i64 t,.int .i64 21,.int .i64 0,.int .i64 0,.string ⟨#[]⟩,.string ⟨#[]⟩,.int .i64 k8,.int .i64 n8,.string s8,.slice la8 ln8 lc8]) (by simp only[results,Tryz.results20];go_simp) rfl ?_;have h1:=HB.o.1;have hq:=HB.o.2;have h2:=h1.trans (((znv wc.heap.size wc).trans H1.o.2).mono h1.size);have h3:=h2.trans (HK.o.below h2.size (fun j hj e=>by omega));have hC:=H1.o.1.mono (G:=fun g=>W.heap.size+3≤g) (fun g hg _=>by have hg:wc.heap.size≤g:=hg;have e:wc.heap.size=wc.heap.size:=rfl;omega);have hC2:=(hC.keep HK.o (fun g hg e=>by have hg:W.heap.size+3≤g:=hg;omega)).keep K3 (fun g hg e=>by have hg:W.heap.size+3≤g:=hg;omega);exact⟨_,_,_,_,_,_,by rw[HE.o],zhd ⟨by rw[HE.o];exact hC2.mono (fun g hg _=>by have hg:W.heap.size+3≤g:=hg;show W.heap.size≤g;omega),h3.trans (K3.below h3.size (fun j hj e=>by omega))⟩⟩
theorem ymE
  (t a b:Int)(nm:ByteArray)(vk vn:Int)(vs:ByteArray)(la:Option Addr)(ln lc:Nat)(x:Val)(F:Nat→Prop)(W:World)(C:CF F W ⟨vk,vn,vs,la,ln,lc⟩ x)
  (hz:szV x≤1073741824):
  Calls Tryz.prog 20 #[.agg #[.int .i64 3,.int .i64 t,.int .i64 a,.int .i64 b,.string nm,.int .i64 vk,.int .i64 vn,.string vs,.slice la ln lc]] W (yel W ⟨3,t,a,b,nm,x⟩)
  :=by
 have HE:=zhd (show evOfC ⟨3,t,a,b,nm,x⟩=⟨0,t,7,a,b,nm,⟨#[]⟩,yab x⟩ by unfold evOfC;rfl);obtain⟨wc,hwc⟩:∃wc,wc=((W.alloc (.cells #[.int .i64 3,.int .i64 t,.int .i64 a,.int .i64 b,.string nm,.int .i64 vk,.int .i64 vn,.string vs,.slice la ln lc] 52)).alloc (.cells #[.int .i64 0,.int .i64 0,.int .i64 0,.int .i64 0,.int .i64 0,.string ⟨#[]⟩,.string ⟨#[]⟩,.int .i64 0,.int .i64 0,.string ⟨#[]⟩,.slice none 0 0] 40)).alloc (.cells #[.int .i64 0,.int .i64 t,.int .i64 0,.int .i64 0,.int .i64 0,.string ⟨#[]⟩,.string ⟨#[]⟩,.int .i64 0,.int .i64 0,.string ⟨#[]⟩,.slice none 0 0] 40):=⟨_,rfl⟩;have hA:wc.heap[W.heap.size]? =some (.cells #[.int .i64 3,.int .i64 t,.int .i64 a,.int .i64 b,.string nm,.int .i64 vk,.int .i64 vn,.string vs,.slice la ln lc] 52 (0,0)):=by rw[hwc];exact ybY.1
 have hZ:wc.heap[W.heap.size+1]? =some (.cells #[.int .i64 0,.int .i64 0,.int .i64 0,.int .i64 0,.int .i64 0,.string ⟨#[]⟩,.string ⟨#[]⟩,.int .i64 0,.int .i64 0,.string ⟨#[]⟩,.slice none 0 0] 40 (0,0)):=by rw[hwc];exact ybY.2.1
 have hE:wc.heap[W.heap.size+1+1]? =some (.cells #[.int .i64 0,.int .i64 t,.int .i64 0,.int .i64 0,.int .i64 0,.string ⟨#[]⟩,.string ⟨#[]⟩,.int .i64 0,.int .i64 0,.string ⟨#[]⟩,.slice none 0 0] 40 (0,0)):=by rw[hwc];exact ybY.2.2
 have hsz:wc.heap.size=W.heap.size+3:=by rw[hwc];simp
 have B0:Below W.heap.size W wc:=by rw[hwc];exact((zal).alloc (by simp) _).alloc (by simp;omega) _
 have HB:=zh2 B0 hsz;obtain⟨c0,c1,c2,c3,c4,c5,c6,c7,c8,cl,_⟩:=yhP hA;obtain⟨z0,z1,z2,z3,z4,z5,z6,z7,z8,z9,z10,zl,zf⟩:=yaw hZ;obtain⟨e0,e1,e2,e3,e4,e5,e6,e7,e8,e9,e10,el,ef⟩:=yaw hE;have HH:=zh3 hA hZ hE;clear hA hZ hE hsz B0;have CL:=zhd (yav x vk vn vs la ln lc _ wc.drew ((C.keep (S:=fun _=>False) (zkb HB.o.1) (fun _ _ f=>f)).keep (S:=fun _=>False) (zkb (znv _ _).drew) (fun _ _ f=>f)) hz);clear C hz;go_enter Tryz.func20,Tryz.ntmps20;go_upto_region 3 with(fail);rw[←hwc];clear hwc;go_upto_region 8 with(fail);have s1:wc.drew.cell? ⟨W.heap.size,2,none⟩=some (.int .i64 a):=c2;have s2:wc.drew.cell? ⟨W.heap.size,3,none⟩=some (.int .i64 b):=c3;have s3:wc.drew.cell? ⟨W.heap.size,4,none⟩=some (.string nm):=c4;have s4:wc.drew.cell? ⟨W.heap.size,5,none⟩=some (.int .i64 vk):=c5;have s5:wc.drew.cell? ⟨W.heap.size,6,none⟩=some (.int .i64 vn):=c6;have s6:wc.drew.cell? ⟨W.heap.size,7,none⟩=some (.string vs):=c7;have s7:wc.drew.cell? ⟨W.heap.size,8,none⟩=some (.slice la ln lc):=c8
 go_region_held3 (fun W1=>W1.cell? ⟨W.heap.size,2,none⟩=some (.int .i64 a)∧W1.cell? ⟨W.heap.size,3,none⟩=some (.int .i64 b)∧W1.cell? ⟨W.heap.size,4,none⟩=some (.string nm)∧W1.cell? ⟨W.heap.size,5,none⟩=some (.int .i64 vk)∧W1.cell? ⟨W.heap.size,6,none⟩=some (.int .i64 vn)∧W1.cell? ⟨W.heap.size,7,none⟩=some (.string vs)∧W1.cell? ⟨W.heap.size,8,none⟩=some (.slice la ln lc)) (first|with_reducible exact⟨s1,s2,s3,s4,s5,s6,s7⟩|with_reducible exact⟨t1,t2,t3,t4,t5,t6,t7⟩|go_keep|go_simp) ((go_at_call 58;refine CL.o.mono ?_;rintro e w1 ⟨⟨k8,n8,s8,la8,ln8,lc8⟩,rfl,H1⟩;have hA1:=(H1.o.2.block W.heap.size cl).trans HH.o.1;have hE1:=(H1.o.2.block (W.heap.size+1+1) el).trans HH.o.2.2;have hZ1:=(H1.o.2.block (W.heap.size+1) zl).trans HH.o.2.1;obtain⟨_,_,t1,t2,t3,t4,t5,t6,t7,tl,_⟩:=yhP hA1;obtain⟨e0,e1,e2,e3,e4,e5,e6,e7,e8,e9,e10,el,ef⟩:=yaw hE1;obtain⟨z0,z1,z2,z3,z4,z5,z6,z7,z8,z9,z10,zl,zf⟩:=yaw hZ1;have HE1:=zhd hE1;have HZ1:=zhd hZ1;clear hA1 hE1 hZ1))
 all_goals
  go_upto_region 15 with(fail);refine yaa ?_;intro w2 hw2;have hE2:w2.heap[W.heap.size+1+1]? =some (.cells #[.int .i64 0,.int .i64 t,.int .i64 7,.int .i64 a,.int .i64 b,.string nm,.string ⟨#[]⟩,.int .i64 k8,.int .i64 n8,.string s8,.slice la8 ln8 lc8] 40 (0,0)):=by
   rw[hw2];have:=HE1.o;simp[World.setCell,World.drew,zni,this]
  have hZ2:w2.heap[W.heap.size+1]? =some (.cells #[.int .i64 0,.int .i64 0,.int .i64 0,.int .i64 0,.int .i64 0,.string ⟨#[]⟩,.string ⟨#[]⟩,.int .i64 0,.int .i64 0,.string ⟨#[]⟩,.slice none 0 0] 40 (0,0)):=by
   rw[hw2];have:=HZ1.o;simp[World.setCell,World.drew,zni,this]
  have K2:Keeps (fun j=>j=W.heap.size+1+1) w1 w2:=by
   rw[hw2]
   repeat(first|with_reducible exact Keeps.refl _ _|with_reducible refine Keeps.drew ?_|(refine Keeps.setCell ?_ (Or.inl ?h) _;case h=>rfl))
  clear z0 z1 z2 z3 z4 z5 z6 z7 z8 z9 z10 zl zf e0 e1 e2 e3 e4 e5 e6 e7 e8 e9 e10 el ef hw2;obtain⟨z0,z1,z2,z3,z4,z5,z6,z7,z8,z9,z10,zl,zf⟩:=yaw hZ2;obtain⟨e0,e1,e2,e3,e4,e5,e6,e7,e8,e9,e10,el,ef⟩:=yaw hE2;have HK:=zhd K2;have HZ2:=zhd hZ2;clear hE2 hZ2 K2;go_wp2_with fail;refine yci ?_;intro w3 hw3;have hZ3:w3.heap[W.heap.size+1]? =some (.cells #[.int .i64 0,.int .i64 t,.int .i64 7,.int .i64 a,.int .i64 b,.string nm,.string ⟨#[]⟩,.int .i64 k8,.int .i64 n8,.string s8,.slice la8 ln8 lc8] 40 (0,0)):=by
   rw[hw3];have:=HZ2.o;simp[World.setCell,zni,this]
  have K3:Keeps (fun j=>j=W.heap.size+1) w2 w3:=by
   rw[hw3]
   repeat(first|with_reducible exact Keeps.refl _ _|(refine Keeps.setCell ?_ (Or.inl ?h) _;case h=>rfl))
  clear hw3 z0 z1 z2 z3 z4 z5 z6 z7 z8 z9 z10 zl zf e0 e1 e2 e3 e4 e5 e6 e7 e8 e9 e10 el ef;obtain⟨z0,z1,z2,z3,z4,z5,z6,z7,z8,z9,z10,zl,zf⟩:=yaw hZ3;refine zng (v:=.agg #[.int .i64 0,.int .i64 t,.int .i64 7,.int .i64 a,.int .i64 b,.string nm,.string ⟨#[]⟩,.int .i64 k8,.int .i64 n8,.string s8,.slice la8 ln8 lc8]) (by simp only[results,Tryz.results20];go_simp) rfl ?_;have h1:=HB.o.1;have hq:=HB.o.2;have h2:=h1.trans (((znv wc.heap.size wc).drew.trans H1.o.2).mono h1.size);have h3:=h2.trans (HK.o.below h2.size (fun j hj e=>by omega));have hC:=H1.o.1.mono (G:=fun g=>W.heap.size+3≤g) (fun g hg _=>by have hg:wc.drew.heap.size≤g:=hg;have e:wc.drew.heap.size=wc.heap.size:=rfl;omega);have hC2:=(hC.keep HK.o (fun g hg e=>by have hg:W.heap.size+3≤g:=hg;omega)).keep K3 (fun g hg e=>by have hg:W.heap.size+3≤g:=hg;omega);exact⟨_,_,_,_,_,_,by rw[HE.o],zhd ⟨by rw[HE.o];exact hC2.mono (fun g hg _=>by have hg:W.heap.size+3≤g:=hg;show W.heap.size≤g;omega),h3.trans (K3.below h3.size (fun j hj e=>by omega))⟩⟩
theorem yc2 (c:Cm)(hc:yaT c=0)(hz:szV c.v≤1073741824)(vk vn:Int)(vs:ByteArray)(la:Option Addr)(ln lc:Nat)(F:Nat→Prop)(W:World)(C:CF F W ⟨vk,vn,vs,la,ln,lc⟩ c.v):
  Calls Tryz.prog 20 #[.agg #[.int .i64 c.kind,.int .i64 c.time,.int .i64 c.a,.int .i64 c.b,.string c.name,.int .i64 vk,.int .i64 vn,.string vs,.slice la ln lc]] W (yel W c):=by
 obtain⟨⟨t1,t2⟩,ha,hb0,hn,hv,hk⟩:=yfe hc;obtain⟨k,t,a,b,nm,x⟩:=c;dsimp only at*;rcases hk with⟨rfl,_,_⟩|⟨rfl,_,_⟩|rfl|⟨rfl,_,_⟩|⟨rfl,_,_⟩|⟨rfl,_,_⟩
 ·exact ymG t a b nm vk vn vs la ln lc x F W C t1 hb0 t2
 ·exact ymF t a b nm vk vn vs la ln lc x F W C
 ·exact ymE t a b nm vk vn vs la ln lc x F W C hz
 ·exact ymD t a b nm vk vn vs la ln lc x F W C hz
 ·exact ymC t a b nm vk vn vs la ln lc x F W C
 ·exact ymB t a b nm vk vn vs la ln lc x F W C hz
end Go.Proofs.YtpagmlndgblhhaaGreatDoor
