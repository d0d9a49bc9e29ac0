/- Parts of the proof: what the functions and the plain laws give that later parts lean on. Conditions: none beyond those that each theorem names. -/
import Derived.Test.YtpagmlndgblhhaaGreatDoorT21
set_option maxRecDepth 100000
set_option maxHeartbeats 8000000
namespace Go.Va
open Go.Own Go.RowKit
open Go.Proofs.YtpagmlndgblhhaaGreatDoor
theorem yj6 {k:Int}(h:yaI k=true):k=1\/k=8\/k=9\/k=10\/k=12\/k=14\/k=15\/k=19\/k=20:=znx h
theorem ygc (s:MS)(e:Ev):(hear s e).letters.length<=s.letters.length+1:=by
 unfold hear
 repeat' split
 all_goals first|exact Nat.le_succ _|exact Nat.le_of_eq (by show(s.letters++[_]).length=_;rw[znk];rfl)
theorem yld {p:Img}{fa:Fa}(K:Known p fa){s:MS}(S:St p fa s){e:Ev}(h0:yae e=0)(hw:e.v.wf)(hov:s.over=false)(he:s.events<=30){s1:MS}(hs1:hear {s with now:=e.time,steps:=0,events:=s.events+1} e=s1):
  Rk p s1/\At fa s1/\s1.made.length+fuel p s1<=4000000000/\s1.letters.length<=4294967296/\s1.steps+fuel p s1<=4000000000/\s.letters.length<=30:=by
 have P:=yjQ K S he;obtain⟨s0,A⟩:∃s0:MS,s0={s with now:=e.time,steps:=0,events:=s.events+1}:=⟨_,rfl⟩;rw[<-A]at hs1;have V:=S.rk.vs;have O:Vs s0:=by rw[A];exact⟨V.stk,V.pls,V.inp,V.tms,V.acs,V.lts,V.mds,(ya1 h0).1,V.nt,V.na⟩
 have B:=yik s0 e;have F:=ydO s0 e;have G:=yem s0 e;have H:=ygc s0 e;have I:=ykx (s:=s0) e (by rw[A];exact S.good.at_ hov);have J:=O.hear h0 hw;have M:=S.good.pot hov;have L:pot s0=pot s:=by rw[A];rfl
 have N:s.letters.length<=pot s:=by unfold pot;omega
 have E:s0.letters=s.letters:=by rw[A]
 have D:s0.made=s.made:=by rw[A]
 have C:s0.steps=0:=by rw[A]
 rw[hs1]at B F G H I J;have Q:fuel p s1<=(p.code.length+1)*(s.events+2):=by
  unfold fuel;exact Nat.mul_le_mul_left _ (by omega)
 refine⟨⟨J,by rw[B.1,A];exact S.rk.opn,by rw[B.2,A];exact S.rk.pls⟩,I,?_,?_,?_,by omega⟩
 .rw[G.1,D];omega
 .rw[E]at H;omega
 .rw[F.2.2,C];omega
end Go.Va
namespace Go.Proofs.YtpagmlndgblhhaaGreatDoor
open Go.RowKit Go.Own Go.Own.MapTy Go.Va Go.Sort
open Go.Own.Cells (sz enc)
theorem ygC
  {Z:Nat->Prop}(b:Nat)(v:MV)(p:Img)(s:MS)(W:World)(M:MX TT Z W b v p s){N:Nat}(G:Gl Tryz.prog N W)(fa:Fa)(K:Known p fa)(P:Pk p)(hsp:fa.span<=p.code.length+1)(S:St p fa s)(hev:s.events<=30)(hZ:∀j,W.heap.size<=j->Z j)
  (id t k a bb:Int)(nm tx:ByteArray)(x:Val)(vk vn:Int)(vs:ByteArray)(la:Option Addr)(ln lc:Nat)(F:Nat->Prop)(C:CF F W ⟨vk,vn,vs,la,ln,lc⟩ x)(hw:x.wf)(hF:∀g,F g->¬MO v b g)(r:Int×MS)(hr:yat p s ⟨id,t,k,a,bb,nm,tx,x⟩=r):
  Calls Tryz.prog 70 #[.pointer (some ⟨b,0,none⟩),.agg #[id,t,k,a,bb,nm,tx,vk,vn,vs,.slice la ln lc]] W (MP Z W b v p (.int .i64 r.1) r.2):=by
 subst hr;by_cases h0:yae ⟨id,t,k,a,bb,nm,tx,x⟩=0
 .by_cases H:yaI k=true
  .have I:¬(yae ⟨id,t,k,a,bb,nm,tx,x⟩≠0\/yaI k=false):=fun h=>h.elim (fun h=>h h0) (fun h=>by rw[H]at h;cases h)
   by_cases A:s.over=true
   .have e:yat p s ⟨id,t,k,a,bb,nm,tx,x⟩=(181,s):=by unfold yat;rw[if_neg I,if_pos A]
    rw[e];exact yju b v p s W M G id t k a bb nm tx x vk vn vs la ln lc F C hw h0 H A
   .by_cases hbg:s.begun=(k==1)
    .have e:yat p s ⟨id,t,k,a,bb,nm,tx,x⟩=(7,s):=by unfold yat;rw[if_neg I,if_neg A,if_pos hbg]
     rw[e];exact yhI b v p s W M G id t k a bb nm tx x vk vn vs la ln lc F C hw h0 H (by simpa using A) hbg
    .obtain⟨s1,B⟩:∃s1,hear {s with now:=t,steps:=0,events:=s.events+1} ⟨id,t,k,a,bb,nm,tx,x⟩=s1:=⟨_,rfl⟩
     have e:yat p s ⟨id,t,k,a,bb,nm,tx,x⟩=(0,ylz p s1):=by unfold yat;rw[if_neg I,if_neg A,if_neg hbg,<-B]
     rw[e];have A:s.over=false:=by simpa using A
     obtain⟨Y,c,X,V,U,d⟩:=yld K S h0 hw A hev B;have J:∀(W':World) (v':MV),MX TT Z W' b v' p s1->W<=W'.heap.size->Calls Tryz.prog 109 #[.pointer (some ⟨b,0,none⟩)] W' (MP Z W' b v' p (.tuple #[]) (ylz p s1)):=
      fun W' v' M' hs=>ymV b v' p s1 W' M' fa K P Y (fuel p s1) (fun _=>⟨c,yf7 hsp⟩) X V U (yad hZ hs) _ rfl
     have O:=S.rk.opn;unfold opn at O;have L:=ya1 h0;have T:=ycZ (x:=x) ⟨L.2.2.2.2.2.2.2,hw⟩;have Q:nm.size<=64:=L.2.2.2.2.2.1;have D:∀k:Int,(k==1)=false->¬s.begun=(k==1)->s.begun=true:=fun k hk h=>by rw[hk]at h;simpa using h
     rcases yj6 H with rfl|rfl|rfl|rfl|rfl|rfl|rfl|rfl|rfl
     .exact yhJ b v p s W M G id t a bb nm tx x vk vn vs la ln lc F C hw h0 A (by simpa using hbg) hF (by omega) hZ (by omega) s1 _ B J
     .exact yjy b v p s W M G id t a bb nm tx x vk vn vs la ln lc F C hw h0 A (D 8 rfl hbg) hF (by omega) hZ (by omega) (by omega) s1 _ B J
     .exact ygB b v p s W M G id t a bb nm tx x vk vn vs la ln lc F C hw h0 A (D 9 rfl hbg) hF (by omega) hZ (by omega) Q s1 _ B J
     .exact yjw b v p s W M G id t a bb nm tx x vk vn vs la ln lc F C hw h0 A (D 10 rfl hbg) hF (by omega) hZ (by omega) s1 _ B J
     .exact yhL b v p s W M G id t a bb nm tx x vk vn vs la ln lc F C hw h0 A (D 12 rfl hbg) hF (by omega) hZ (by omega) s1 _ B J
     .exact ygA b v p s W M G id t a bb nm tx x vk vn vs la ln lc F C hw h0 A (D 14 rfl hbg) hF (by omega) hZ (by omega) (by omega) s1 _ B J
     .exact yhN b v p s W M G id t a bb nm tx x vk vn vs la ln lc F C hw h0 A (D 15 rfl hbg) hF (by omega) s1 _ B J
     .have E:s1.over=true:=by rw[<-B];rfl
      have R:ylz p s1=s1:=yd8 E _;rw[R];exact yhM b v p s W M G id t a bb nm tx x vk vn vs la ln lc F C hw h0 A (D 19 rfl hbg) hF (by omega) s1 B
     .have E:s1.over=true:=by rw[<-B];rfl
      have R:ylz p s1=s1:=yd8 E _;rw[R];exact yhH b v p s W M G id t a bb nm tx x vk vn vs la ln lc F C hw h0 A (D 20 rfl hbg) hF (by omega) s1 B
  .have H:yaI k=false:=by simpa using H
   have e:yat p s ⟨id,t,k,a,bb,nm,tx,x⟩=(9,s):=by unfold yat;rw[if_pos (.inr H)]
   rw[e];exact yhK b v p s W M G id t k a bb nm tx x vk vn vs la ln lc F C hw h0 H
 .have e:yat p s ⟨id,t,k,a,bb,nm,tx,x⟩=(9,s):=by unfold yat;rw[if_pos (.inl h0)]
  rw[e];exact ylc b v p s W M G id t k a bb nm tx x vk vn vs la ln lc F C hw _ rfl (by simpa using h0)
theorem ynT {x:Val}(h1:x.all B64)(h2:x.all (fun _ _ s=>s.size<=1100)):x.wf:=ynS h1 h2
theorem yo5 {c:Cm}(h:yaV c=0):checkL c.v=0:=by
 unfold yaV at h;split at h
 .cases h
 .split at h
  .cases h
  .split at h
   .cases h
   .split at h
    .cases h
    .exact h
theorem ykk {p:Img}{fa:Fa}{s:MS}(S:St p fa s):∀c∈s.made,szV c.v<=1073741824:=fun c hc=>by
 have h:=S.rk.vs.mds c hc;have:=ycZ (x:=c.v) ⟨yo5 h.1,h.2⟩;omega
end Go.Proofs.YtpagmlndgblhhaaGreatDoor
namespace Go.Proofs.YtpagmlndgblhhaaGreatDoor
set_option linter.unusedSimpArgs false
open Go.RowKit Go.Own Go.Own.MapTy Go.Va Go.Sort
open Go.Own.Cells (sz enc)
set_option linter.unusedVariables false
theorem yaB {w:World}{g:Nat}{ty:TypeId}{id t k a b:Int}{nm tx:ByteArray}{vk vn:Int}{vs:ByteArray}{la:Option Addr}{ln lc:Nat}(h:w.heap[g]? =some (.cells #[id,t,k,a,b,nm,tx,vk,vn,vs,.slice la ln lc] ty (0,0))):w.cell? ⟨g,0,none⟩=some (.int .i64 id)/\w.cell? ⟨g,1,none⟩=some (.int .i64 t)/\w.cell? ⟨g,2,none⟩=some (.int .i64 k)/\w.cell? ⟨g,3,none⟩=some (.int .i64 a)/\w.cell? ⟨g,4,none⟩=some (.int .i64 b)/\w.cell? ⟨g,5,none⟩=some (.string nm)/\w.cell? ⟨g,6,none⟩=some (.string tx)/\w.cell? ⟨g,7,none⟩=some (.int .i64 vk)/\w.cell? ⟨g,8,none⟩=some (.int .i64 vn)/\w.cell? ⟨g,9,none⟩=some (.string vs)/\w.cell? ⟨g,10,none⟩=some (.slice la ln lc)/\g<w/\∀o,w.frozen? ⟨g,o,none⟩=false:=
 ⟨(by rw[zch h];rfl),(by rw[zch h];rfl),(by rw[zch h];rfl),(by rw[zch h];rfl),(by rw[zch h];rfl),(by rw[zch h];rfl),(by rw[zch h];rfl),(by rw[zch h];rfl),(by rw[zch h];rfl),(by rw[zch h];rfl),(by rw[zch h];rfl),zlt h,fun o=>zfr h o⟩
theorem ygt {w:World}{g:Nat}{ty:TypeId}{k t a b:Int}{nm:ByteArray}{vk vn:Int}{vs:ByteArray}{la:Option Addr}{ln lc:Nat}(h:w.heap[g]? =some (.cells #[k,t,a,b,nm,vk,vn,vs,.slice la ln lc] ty (0,0))):w.cell? ⟨g,0,none⟩=some (.int .i64 k)/\w.cell? ⟨g,1,none⟩=some (.int .i64 t)/\w.cell? ⟨g,2,none⟩=some (.int .i64 a)/\w.cell? ⟨g,3,none⟩=some (.int .i64 b)/\w.cell? ⟨g,4,none⟩=some (.string nm)/\w.cell? ⟨g,5,none⟩=some (.int .i64 vk)/\w.cell? ⟨g,6,none⟩=some (.int .i64 vn)/\w.cell? ⟨g,7,none⟩=some (.string vs)/\w.cell? ⟨g,8,none⟩=some (.slice la ln lc)/\g<w/\∀o,w.frozen? ⟨g,o,none⟩=false:=
 ⟨(by rw[zch h];rfl),(by rw[zch h];rfl),(by rw[zch h];rfl),(by rw[zch h];rfl),(by rw[zch h];rfl),(by rw[zch h];rfl),(by rw[zch h];rfl),(by rw[zch h];rfl),(by rw[zch h];rfl),zlt h,fun o=>zfr h o⟩
theorem yc5 {F:Nat->Prop}{W:World}{ea:Option Addr}{en ec:Nat}{l:List Ev}(E:XRd F W (.slice ea en ec) l){i:Nat}{e:Ev}(he:l[i]? =some e):∃(g off:Nat) (vk vn:Int) (vs:ByteArray) (la:Option Addr) (ln lc:Nat),ea=some ⟨g,off,none⟩/\F g/\g<W/\CF F W ⟨vk,vn,vs,la,ln,lc⟩ e.v/\W.cell? ⟨g,off+i*11,none⟩=some (.int .i64 e.id)/\W.cell? ⟨g,off+i*11+1,none⟩=some (.int .i64 e.time)/\W.cell? ⟨g,off+i*11+2,none⟩=some (.int .i64 e.kind)/\W.cell? ⟨g,off+i*11+3,none⟩=some (.int .i64 e.a)/\W.cell? ⟨g,off+i*11+4,none⟩=some (.int .i64 e.b)/\W.cell? ⟨g,off+i*11+5,none⟩=some (.string e.name)/\W.cell? ⟨g,off+i*11+6,none⟩=some (.string e.text)/\W.cell? ⟨g,off+i*11+7,none⟩=some (.int .i64 vk)/\W.cell? ⟨g,off+i*11+8,none⟩=some (.int .i64 vn)/\W.cell? ⟨g,off+i*11+9,none⟩=some (.string vs)/\W.cell? ⟨g,off+i*11+10,none⟩=some (.slice la ln lc):=by
 obtain⟨g,off,⟨Z,Y,X,V,U,T,S,⟨P,N,M,R,O,Q⟩⟩,d,f,c,hrel,A⟩:=E.at_ he;have B:EvF F W ⟨Z,Y,X,V,U,T,S,⟨P,N,M,R,O,Q⟩⟩ e:=hrel;obtain⟨L,K,J,I,H,G,D,C⟩:=B;dsimp only at L K J I H G D C;subst L K J I H G D;exact⟨g,off,_,_,_,_,_,_,d,f,c,C,A 0 _ rfl,A 1 _ rfl,A 2 _ rfl,A 3 _ rfl,A 4 _ rfl,A 5 _ rfl,A 6 _ rfl,A 7 _ rfl,A 8 _ rfl,A 9 _ rfl,A 10 _ rfl⟩
theorem ykY {F:Nat->Prop}{W:World}{ea:Option Addr}{en ec:Nat}{l:List Cm}(E:XRd F W (.slice ea en ec) l){i:Nat}{e:Cm}(he:l[i]? =some e):∃(g off:Nat) (vk vn:Int) (vs:ByteArray) (la:Option Addr) (ln lc:Nat),ea=some ⟨g,off,none⟩/\F g/\g<W/\CF F W ⟨vk,vn,vs,la,ln,lc⟩ e.v/\W.cell? ⟨g,off+i*9,none⟩=some (.int .i64 e.kind)/\W.cell? ⟨g,off+i*9+1,none⟩=some (.int .i64 e.time)/\W.cell? ⟨g,off+i*9+2,none⟩=some (.int .i64 e.a)/\W.cell? ⟨g,off+i*9+3,none⟩=some (.int .i64 e.b)/\W.cell? ⟨g,off+i*9+4,none⟩=some (.string e.name)/\W.cell? ⟨g,off+i*9+5,none⟩=some (.int .i64 vk)/\W.cell? ⟨g,off+i*9+6,none⟩=some (.int .i64 vn)/\W.cell? ⟨g,off+i*9+7,none⟩=some (.string vs)/\W.cell? ⟨g,off+i*9+8,none⟩=some (.slice la ln lc):=by
 obtain⟨g,off,⟨U,T,S,R,Q,⟨N,L,K,P,M,O⟩⟩,X,Y,V,hrel,A⟩:=E.at_ he;have B:CmF F W ⟨U,T,S,R,Q,⟨N,L,K,P,M,O⟩⟩ e:=hrel;obtain⟨J,I,H,G,D,C⟩:=B;dsimp only at J I H G D C;subst J I H G D;exact⟨g,off,_,_,_,_,_,_,X,Y,V,C,A 0 _ rfl,A 1 _ rfl,A 2 _ rfl,A 3 _ rfl,A 4 _ rfl,A 5 _ rfl,A 6 _ rfl,A 7 _ rfl,A 8 _ rfl⟩
theorem ymS (x y:Int)(W:World)(hx:0<=x)(hy:0<=y)(hx2:x<=4611686018427387903):Calls Tryz.prog 57 #[x,y] W (fun e w'=>e= .returned (.int .i64 (ygS x y))/\W=w'):=by
 have F:¬x<0:=by omega
 have D:¬y<0:=by omega
 have I:decide (x<0)=false:=znd F;have H:decide (y<0)=false:=znd D;by_cases h5:4611686018427387903<=x
 .have A:=zhd (show ygS x y=4611686018427387903 by unfold ygS;rw[if_neg (by omega),if_pos (.inl h5)])
  have C:decide (4611686018427387903<=x)=true:=zno h5;go_in;go_wp2;go_ret;exact⟨by rw[A.o];rfl,rfl⟩
 .have C:decide (4611686018427387903<=x)=false:=znd h5
  have G:IntKind.i64.wrap (4611686018427387903 - x)=4611686018427387903 - x:=zmk _ (by omega);by_cases h8:4611686018427387903 - x<y
  .have A:=zhd (show ygS x y=4611686018427387903 by unfold ygS;rw[if_neg (by omega),if_pos (.inr h8)])
   have B:decide (4611686018427387903 - x<y)=true:=zno h8;go_in;go_wp2;go_ret;exact⟨by rw[A.o];rfl,rfl⟩
  .have A:=zhd (show ygS x y=x+y by unfold ygS;rw[if_neg (by omega),if_neg (by omega)])
   have B:decide (4611686018427387903 - x<y)=false:=znd h8;have E:IntKind.i64.wrap (x+y)=x+y:=zmk _ (by omega);go_in;go_wp2;go_ret;exact⟨by rw[A.o];simp,rfl⟩
theorem yc9 (id t k a b:Int)(nm tx:ByteArray)(vk vn:Int)(vs:ByteArray)(la:Option Addr)(ln lc:Nat)(w:World)(r:Bool)(hr:yaX k=r):
  Calls Tryz.prog 31 #[.agg #[id,t,k,a,b,nm,tx,vk,vn,vs,.slice la ln lc]] w (fun e w'=>e= .returned (.bool r)/\Below w w w'):=by
 subst hr;by_cases h11:k=11
 .subst h11
  go_in;go_wp2;go_ret;exact⟨rfl,zal⟩
 .have E:(k==11)=false:=by rw[zna];exact h11
  by_cases h13:k=13
  .subst h13
   go_in;go_wp2;go_ret;exact⟨rfl,zal⟩
  .have D:(k==13)=false:=by rw[zna];exact h13
   by_cases h7:k=7
   .subst h7
    go_in;go_wp2;go_ret;exact⟨rfl,zal⟩
   .have G:(k==7)=false:=by rw[zna];exact h7
    by_cases h16:k=16
    .subst h16
     go_in;go_wp2;go_ret;exact⟨rfl,zal⟩
    .have C:(k==16)=false:=by rw[zna];exact h16
     by_cases h17:k=17
     .subst h17
      go_in;go_wp2;go_ret;exact⟨rfl,zal⟩
     .have B:(k==17)=false:=by rw[zna];exact h17
      by_cases h21:k=21
      .subst h21
       go_in;go_wp2;go_ret;exact⟨rfl,zal⟩
      .have A:(k==21)=false:=by rw[zna];exact h21
       have F:=zhd (show yaX k=false by unfold yaX;exact znd (by omega));clear h11 h13 h7 h16 h17 h21;go_in;go_wp2;go_ret;exact⟨by rw[F.o];rfl,zal⟩
def yiN (e f:Ev):Bool:=(e.id==f.id)&&((e.time==f.time)&&((e.kind==f.kind)&&((e.a==f.a)&&((e.b==f.b)&&(decide (e.name=f.name)&&(decide (e.text=f.text)&&(cmpV e.v f.v==0)))))))
theorem ygg (id t k a b:Int)(nm tx:ByteArray)(vk vn:Int)(vs:ByteArray)(la:Option Addr)(ln lc:Nat)(id' t' k' a' b':Int)(nm' tx':ByteArray)(vk' vn':Int)(vs':ByteArray)(la':Option Addr)(ln' lc':Nat)(x y:Val)(F F':Nat->Prop)(W:World)(C:CF F W ⟨vk,vn,vs,la,ln,lc⟩ x)(D:CF F' W ⟨vk',vn',vs',la',ln',lc'⟩ y)(r:Bool)(hr:yiN ⟨id,t,k,a,b,nm,tx,x⟩ ⟨id',t',k',a',b',nm',tx',y⟩=r):
  Calls Tryz.prog 117 #[.agg #[id,t,k,a,b,nm,tx,vk,vn,vs,.slice la ln lc],.agg #[id',t',k',a',b',nm',tx',vk',vn',vs',.slice la' ln' lc']] W (fun e w'=>e= .returned (.bool r)/\Below W W w'):=by
 obtain⟨w0,A⟩:∃w0,w0=(W.alloc (.cells #[id,t,k,a,b,nm,tx,vk,vn,vs,.slice la ln lc] 40)).alloc (.cells #[id',t',k',a',b',nm',tx',vk',vn',vs',.slice la' ln' lc'] 40):=⟨_,rfl⟩;have I:Below W W w0:=by rw[A];exact(zal).alloc (by simp) _
 have M:w0.heap[W.heap.size]? =some (.cells #[id,t,k,a,b,nm,tx,vk,vn,vs,.slice la ln lc] 40 (0,0)):=by rw[A];exact yaG
 have L:w0.heap[W.heap.size+1]? =some (.cells #[id',t',k',a',b',nm',tx',vk',vn',vs',.slice la' ln' lc'] 40 (0,0)):=by rw[A];exact yar
 obtain⟨c0,c1,c2,c3,v,u,s,q,p,n,K,m,_⟩:=yaB M;obtain⟨l,j,i,h,g,d,c,Z,Y,X,J,V,_⟩:=yaB L;have G:=zhd (ydJ x y ⟨vk,vn,vs,la,ln,lc⟩ ⟨vk',vn',vs',la',ln',lc'⟩ F F' w0 (C.keep (S:=fun _=>False) (zkb I) (fun _ _ f=>f)) (D.keep (S:=fun _=>False) (zkb I) (fun _ _ f=>f)) _ rfl);have E:=zhd I;unfold yiN at hr;dsimp only at hr;clear I M L C D;by_cases h0:id=id'
 .subst h0
  rw[show(id==id)=true from beq_self_eq_true _,Bool.true_and]at hr;by_cases h1:t=t'
  .subst h1
   rw[show(t==t)=true from beq_self_eq_true _,Bool.true_and]at hr;by_cases h2:k=k'
   .subst h2
    rw[show(k==k)=true from beq_self_eq_true _,Bool.true_and]at hr;by_cases h3:a=a'
    .subst h3
     rw[show(a==a)=true from beq_self_eq_true _,Bool.true_and]at hr;by_cases h4:b=b'
     .subst h4
      rw[show(b==b)=true from beq_self_eq_true _,Bool.true_and]at hr;by_cases h5:nm=nm'
      .subst h5
       rw[show decide (nm=nm)=true from zno rfl,Bool.true_and]at hr;by_cases h6:tx=tx'
       .subst h6
        rw[show decide (tx=tx)=true from zno rfl,Bool.true_and]at hr;have B:=zhd hr;clear hr;go_in;go_wp2_with fail;rw[<-A];clear A;go_wp2_with fail;refine G.o.mono ?_;rintro e w1 ⟨rfl,H⟩;have z:=zhd (E.o.trans (H.mono E.o.size));clear H c0 c1 c2 c3 v u s q p n K l j i h g d c Z Y X J m V;go_wp2;go_ret;exact⟨by rw[<-B.o];rfl,z.o⟩
       .have N:decide (tx=tx')=false:=znd h6
        have m6:(tx.toList==tx'.toList)=false:=by rw[zna,zml,zml];exact fun e=>h6 (yeE.1 e)
        rw[N,Bool.false_and]at hr;have B:=zhd hr;clear hr h6 G;go_in;go_wp2_with fail;rw[<-A];clear A;go_wp2;go_ret;exact⟨by rw[<-B.o];rfl,E.o⟩
      .have O:decide (nm=nm')=false:=znd h5
       have m5:(nm.toList==nm'.toList)=false:=by rw[zna,zml,zml];exact fun e=>h5 (yeE.1 e)
       rw[O,Bool.false_and]at hr;have B:=zhd hr;clear hr h5 G;go_in;go_wp2_with fail;rw[<-A];clear A;go_wp2;go_ret;exact⟨by rw[<-B.o];rfl,E.o⟩
     .have P:(b==b')=false:=by rw[zna];exact h4
      rw[P,Bool.false_and]at hr;have B:=zhd hr;clear hr h4 G;go_in;go_wp2_with fail;rw[<-A];clear A;go_wp2;go_ret;exact⟨by rw[<-B.o];rfl,E.o⟩
    .have Q:(a==a')=false:=by rw[zna];exact h3
     rw[Q,Bool.false_and]at hr;have B:=zhd hr;clear hr h3 G;go_in;go_wp2_with fail;rw[<-A];clear A;go_wp2;go_ret;exact⟨by rw[<-B.o];rfl,E.o⟩
   .have R:(k==k')=false:=by rw[zna];exact h2
    rw[R,Bool.false_and]at hr;have B:=zhd hr;clear hr h2 G;go_in;go_wp2_with fail;rw[<-A];clear A;go_wp2;go_ret;exact⟨by rw[<-B.o];rfl,E.o⟩
  .have T:(t==t')=false:=by rw[zna];exact h1
   rw[T,Bool.false_and]at hr;have B:=zhd hr;clear hr h1 G;go_in;go_wp2_with fail;rw[<-A];clear A;go_wp2;go_ret;exact⟨by rw[<-B.o];rfl,E.o⟩
 .have U:(id==id')=false:=by rw[zna];exact h0
  rw[U,Bool.false_and]at hr;have B:=zhd hr;clear hr h0 G;go_in;go_wp2_with fail;rw[<-A];clear A;go_wp2;go_ret;exact⟨by rw[<-B.o];rfl,E.o⟩
theorem ycC {P:Program}{f:Func}{Q:Ending->World->Prop}{e:Exit}{a:Act}{W:World}(h:∀w,w=W->bodyPost P f Q e a w):bodyPost P f Q e a W:=h W rfl
theorem yci {W:World}{X Y Z:Obj}:(((W.alloc X).alloc Y).alloc Z).heap[W.heap.size]? =some X/\(((W.alloc X).alloc Y).alloc Z).heap[W.heap.size+1]? =some Y/\(((W.alloc X).alloc Y).alloc Z).heap[W.heap.size+1+1]? =some Z:=by
 refine⟨(zne _ _ _ (by simp;omega)).trans yaG,(zne _ _ _ (by simp)).trans yar,?_⟩;have:=znb ((W.alloc X).alloc Y) Z;simpa using this
def yeM (W:World)(c:Cm)(e:Ending)(w':World):Prop:=∃(vk vn:Int) (vs:ByteArray) (la:Option Addr) (ln lc:Nat),e= .returned (.agg #[(evOfC c).id,(evOfC c).time,(evOfC c).kind,(evOfC c).a,(evOfC c).b,(evOfC c).name,(evOfC c).text,vk,vn,vs,.slice la ln lc])/\Hid (CF (fun g=>W<=g) w' ⟨vk,vn,vs,la,ln,lc⟩ (evOfC c).v/\Below W W w')
theorem ynB
  (t a b:Int)(nm:ByteArray)(vk vn:Int)(vs:ByteArray)(la:Option Addr)(ln lc:Nat)(x:Val)(F:Nat->Prop)(W:World)(C:CF F W ⟨vk,vn,vs,la,ln,lc⟩ x)
  :
  Calls Tryz.prog 20 #[.agg #[.int .i64 2,t,a,b,nm,vk,vn,vs,.slice la ln lc]] W (yeM W ⟨2,t,a,b,nm,x⟩)
  :=by
 have HE:=zhd (show evOfC ⟨2,t,a,b,nm,x⟩=⟨0,t,13,a,0,⟨#[]⟩,⟨#[]⟩,yag⟩ by unfold evOfC;rfl);obtain⟨wc,A⟩:∃wc,wc=((W.alloc (.cells #[.int .i64 2,t,a,b,nm,vk,vn,vs,.slice la ln lc] 52)).alloc (.cells #[.int .i64 0,.int .i64 0,.int .i64 0,.int .i64 0,.int .i64 0,.string ⟨#[]⟩,.string ⟨#[]⟩,.int .i64 0,.int .i64 0,.string ⟨#[]⟩,.slice none 0 0] 40)).alloc (.cells #[.int .i64 0,t,.int .i64 0,.int .i64 0,.int .i64 0,.string ⟨#[]⟩,.string ⟨#[]⟩,.int .i64 0,.int .i64 0,.string ⟨#[]⟩,.slice none 0 0] 40):=⟨_,rfl⟩;have Z:wc.heap[W.heap.size]? =some (.cells #[.int .i64 2,t,a,b,nm,vk,vn,vs,.slice la ln lc] 52 (0,0)):=by rw[A];exact yci.1
 have X:wc.heap[W.heap.size+1]? =some (.cells #[.int .i64 0,.int .i64 0,.int .i64 0,.int .i64 0,.int .i64 0,.string ⟨#[]⟩,.string ⟨#[]⟩,.int .i64 0,.int .i64 0,.string ⟨#[]⟩,.slice none 0 0] 40 (0,0)):=by rw[A];exact yci.2.1
 have Y:wc.heap[W.heap.size+1+1]? =some (.cells #[.int .i64 0,t,.int .i64 0,.int .i64 0,.int .i64 0,.string ⟨#[]⟩,.string ⟨#[]⟩,.int .i64 0,.int .i64 0,.string ⟨#[]⟩,.slice none 0 0] 40 (0,0)):=by rw[A];exact yci.2.2
 have H:wc.heap.size=W.heap.size+3:=by rw[A];simp
 have B0:Below W W wc:=by rw[A];exact((zal).alloc (by simp) _).alloc (by simp;omega) _
 have HB:=zh2 B0 H;obtain⟨c0,c1,c2,c3,c4,c5,c6,c7,c8,cl,_⟩:=ygt Z;obtain⟨U,T,S,R,Q,P,O,N,M,L,z10,J,K⟩:=yaB X;obtain⟨r,q,p,n,m,l,k,i,g,f,G,c,d⟩:=yaB Y;have HH:=zh3 Z X Y;clear Z X Y H B0;clear C;go_in;go_upto_region 3 with(fail);rw[<-A];clear A;go_wp2_with fail;go_region
 all_goals
  go_upto_region 15 with(fail);refine yaa ?_;intro w2 B;have I:w2.heap[W.heap.size+1+1]? =some (.cells #[.int .i64 0,t,.int .i64 13,a,.int .i64 0,.string ⟨#[]⟩,.string ⟨#[]⟩,.int .i64 0,.int .i64 0,.string ⟨#[]⟩,.slice none 0 0] 40 (0,0)):=by
   rw[B];have:=HH.o.2.2;simp[World.setCell,World.drew,zni,this]
  have E:w2.heap[W.heap.size+1]? =some (.cells #[.int .i64 0,.int .i64 0,.int .i64 0,.int .i64 0,.int .i64 0,.string ⟨#[]⟩,.string ⟨#[]⟩,.int .i64 0,.int .i64 0,.string ⟨#[]⟩,.slice none 0 0] 40 (0,0)):=by
   rw[B];have:=HH.o.2.1;simp[World.setCell,World.drew,zni,this]
  have z:Keeps (fun j=>j=W+1+1) wc w2:=by
   rw[B]
   repeat(first|with_reducible exact Keeps.refl _ _|with_reducible refine Keeps.drew ?_|(refine Keeps.setCell ?_ (Or.inl ?h) _;case h=>rfl))
  clear U T S R Q P O N M L z10 J K r q p n m l k i g f G c d B;obtain⟨U,T,S,R,Q,P,O,N,M,L,z10,J,K⟩:=yaB E;obtain⟨r,q,p,n,m,l,k,i,g,f,G,c,d⟩:=yaB I;have HK:=zhd z;have s:=zhd E;clear I E z;go_wp2_with fail;refine ycC ?_;intro w3 D;have V:w3.heap[W.heap.size+1]? =some (.cells #[.int .i64 0,t,.int .i64 13,a,.int .i64 0,.string ⟨#[]⟩,.string ⟨#[]⟩,.int .i64 0,.int .i64 0,.string ⟨#[]⟩,.slice none 0 0] 40 (0,0)):=by
   rw[D];have:=s.o;simp[World.setCell,zni,this]
  have K3:Keeps (fun j=>j=W+1) w2 w3:=by
   rw[D]
   repeat(first|with_reducible exact Keeps.refl _ _|(refine Keeps.setCell ?_ (Or.inl ?h) _;case h=>rfl))
  clear D U T S R Q P O N M L z10 J K r q p n m l k i g f G c d;obtain⟨U,T,S,R,Q,P,O,N,M,L,z10,J,K⟩:=yaB V;refine zng (v:=.agg #[.int .i64 0,t,.int .i64 13,a,.int .i64 0,.string ⟨#[]⟩,.string ⟨#[]⟩,.int .i64 0,.int .i64 0,.string ⟨#[]⟩,.slice none 0 0]) (by simp only[results,Tryz.results20];go_simp) rfl ?_;have y:=HB.o.1;have h2:=HB.o.2;have u:=y.trans (HK.o.below y.size (fun j hj e=>by omega));exact⟨_,_,_,_,_,_,by rw[HE.o],zhd ⟨by rw[HE.o];exact yaH _ _,u.trans (K3.below u.size (fun j hj e=>by omega))⟩⟩
theorem yny
  (t a b:Int)(nm:ByteArray)(vk vn:Int)(vs:ByteArray)(la:Option Addr)(ln lc:Nat)(x:Val)(F:Nat->Prop)(W:World)(C:CF F W ⟨vk,vn,vs,la,ln,lc⟩ x)
  :
  Calls Tryz.prog 20 #[.agg #[.int .i64 5,t,a,b,nm,vk,vn,vs,.slice la ln lc]] W (yeM W ⟨5,t,a,b,nm,x⟩)
  :=by
 have HE:=zhd (show evOfC ⟨5,t,a,b,nm,x⟩=⟨0,t,17,0,0,nm,⟨#[]⟩,yag⟩ by unfold evOfC;rfl);obtain⟨wc,A⟩:∃wc,wc=((W.alloc (.cells #[.int .i64 5,t,a,b,nm,vk,vn,vs,.slice la ln lc] 52)).alloc (.cells #[.int .i64 0,.int .i64 0,.int .i64 0,.int .i64 0,.int .i64 0,.string ⟨#[]⟩,.string ⟨#[]⟩,.int .i64 0,.int .i64 0,.string ⟨#[]⟩,.slice none 0 0] 40)).alloc (.cells #[.int .i64 0,t,.int .i64 0,.int .i64 0,.int .i64 0,.string ⟨#[]⟩,.string ⟨#[]⟩,.int .i64 0,.int .i64 0,.string ⟨#[]⟩,.slice none 0 0] 40):=⟨_,rfl⟩;have Z:wc.heap[W.heap.size]? =some (.cells #[.int .i64 5,t,a,b,nm,vk,vn,vs,.slice la ln lc] 52 (0,0)):=by rw[A];exact yci.1
 have X:wc.heap[W.heap.size+1]? =some (.cells #[.int .i64 0,.int .i64 0,.int .i64 0,.int .i64 0,.int .i64 0,.string ⟨#[]⟩,.string ⟨#[]⟩,.int .i64 0,.int .i64 0,.string ⟨#[]⟩,.slice none 0 0] 40 (0,0)):=by rw[A];exact yci.2.1
 have Y:wc.heap[W.heap.size+1+1]? =some (.cells #[.int .i64 0,t,.int .i64 0,.int .i64 0,.int .i64 0,.string ⟨#[]⟩,.string ⟨#[]⟩,.int .i64 0,.int .i64 0,.string ⟨#[]⟩,.slice none 0 0] 40 (0,0)):=by rw[A];exact yci.2.2
 have H:wc.heap.size=W.heap.size+3:=by rw[A];simp
 have B0:Below W W wc:=by rw[A];exact((zal).alloc (by simp) _).alloc (by simp;omega) _
 have HB:=zh2 B0 H;obtain⟨c0,c1,c2,c3,c4,c5,c6,c7,c8,cl,_⟩:=ygt Z;obtain⟨U,T,S,R,Q,P,O,N,M,L,z10,J,K⟩:=yaB X;obtain⟨r,q,p,n,m,l,k,i,g,f,G,c,d⟩:=yaB Y;have HH:=zh3 Z X Y;clear Z X Y H B0;clear C;go_in;go_upto_region 3 with(fail);rw[<-A];clear A;go_wp2_with fail;go_region
 all_goals
  go_upto_region 15 with(fail);refine yaa ?_;intro w2 B;have I:w2.heap[W.heap.size+1+1]? =some (.cells #[.int .i64 0,t,.int .i64 17,.int .i64 0,.int .i64 0,nm,.string ⟨#[]⟩,.int .i64 0,.int .i64 0,.string ⟨#[]⟩,.slice none 0 0] 40 (0,0)):=by
   rw[B];have:=HH.o.2.2;simp[World.setCell,World.drew,zni,this]
  have E:w2.heap[W.heap.size+1]? =some (.cells #[.int .i64 0,.int .i64 0,.int .i64 0,.int .i64 0,.int .i64 0,.string ⟨#[]⟩,.string ⟨#[]⟩,.int .i64 0,.int .i64 0,.string ⟨#[]⟩,.slice none 0 0] 40 (0,0)):=by
   rw[B];have:=HH.o.2.1;simp[World.setCell,World.drew,zni,this]
  have z:Keeps (fun j=>j=W+1+1) wc w2:=by
   rw[B]
   repeat(first|with_reducible exact Keeps.refl _ _|with_reducible refine Keeps.drew ?_|(refine Keeps.setCell ?_ (Or.inl ?h) _;case h=>rfl))
  clear U T S R Q P O N M L z10 J K r q p n m l k i g f G c d B;obtain⟨U,T,S,R,Q,P,O,N,M,L,z10,J,K⟩:=yaB E;obtain⟨r,q,p,n,m,l,k,i,g,f,G,c,d⟩:=yaB I;have HK:=zhd z;have s:=zhd E;clear I E z;go_wp2_with fail;refine ycC ?_;intro w3 D;have V:w3.heap[W.heap.size+1]? =some (.cells #[.int .i64 0,t,.int .i64 17,.int .i64 0,.int .i64 0,nm,.string ⟨#[]⟩,.int .i64 0,.int .i64 0,.string ⟨#[]⟩,.slice none 0 0] 40 (0,0)):=by
   rw[D];have:=s.o;simp[World.setCell,zni,this]
  have K3:Keeps (fun j=>j=W+1) w2 w3:=by
   rw[D]
   repeat(first|with_reducible exact Keeps.refl _ _|(refine Keeps.setCell ?_ (Or.inl ?h) _;case h=>rfl))
  clear D U T S R Q P O N M L z10 J K r q p n m l k i g f G c d;obtain⟨U,T,S,R,Q,P,O,N,M,L,z10,J,K⟩:=yaB V;refine zng (v:=.agg #[.int .i64 0,t,.int .i64 17,.int .i64 0,.int .i64 0,nm,.string ⟨#[]⟩,.int .i64 0,.int .i64 0,.string ⟨#[]⟩,.slice none 0 0]) (by simp only[results,Tryz.results20];go_simp) rfl ?_;have y:=HB.o.1;have h2:=HB.o.2;have u:=y.trans (HK.o.below y.size (fun j hj e=>by omega));exact⟨_,_,_,_,_,_,by rw[HE.o],zhd ⟨by rw[HE.o];exact yaH _ _,u.trans (K3.below u.size (fun j hj e=>by omega))⟩⟩
theorem ynC
  (t a b:Int)(nm:ByteArray)(vk vn:Int)(vs:ByteArray)(la:Option Addr)(ln lc:Nat)(x:Val)(F:Nat->Prop)(W:World)(C:CF F W ⟨vk,vn,vs,la,ln,lc⟩ x)
  (ht:0<=t)(hb:0<=b)(ht2:t<=4611686018427387903):
  Calls Tryz.prog 20 #[.agg #[.int .i64 1,t,a,b,nm,vk,vn,vs,.slice la ln lc]] W (yeM W ⟨1,t,a,b,nm,x⟩)
  :=by
 have HE:=zhd (show evOfC ⟨1,t,a,b,nm,x⟩=⟨0,t,11,a,ygS t b,⟨#[]⟩,⟨#[]⟩,yag⟩ by unfold evOfC;rfl);have SA:=zhd (fun W=>ymS t b W ht hb ht2);obtain⟨wc,A⟩:∃wc,wc=((W.alloc (.cells #[.int .i64 1,t,a,b,nm,vk,vn,vs,.slice la ln lc] 52)).alloc (.cells #[.int .i64 0,.int .i64 0,.int .i64 0,.int .i64 0,.int .i64 0,.string ⟨#[]⟩,.string ⟨#[]⟩,.int .i64 0,.int .i64 0,.string ⟨#[]⟩,.slice none 0 0] 40)).alloc (.cells #[.int .i64 0,t,.int .i64 0,.int .i64 0,.int .i64 0,.string ⟨#[]⟩,.string ⟨#[]⟩,.int .i64 0,.int .i64 0,.string ⟨#[]⟩,.slice none 0 0] 40):=⟨_,rfl⟩;have Z:wc.heap[W.heap.size]? =some (.cells #[.int .i64 1,t,a,b,nm,vk,vn,vs,.slice la ln lc] 52 (0,0)):=by rw[A];exact yci.1
 have X:wc.heap[W.heap.size+1]? =some (.cells #[.int .i64 0,.int .i64 0,.int .i64 0,.int .i64 0,.int .i64 0,.string ⟨#[]⟩,.string ⟨#[]⟩,.int .i64 0,.int .i64 0,.string ⟨#[]⟩,.slice none 0 0] 40 (0,0)):=by rw[A];exact yci.2.1
 have Y:wc.heap[W.heap.size+1+1]? =some (.cells #[.int .i64 0,t,.int .i64 0,.int .i64 0,.int .i64 0,.string ⟨#[]⟩,.string ⟨#[]⟩,.int .i64 0,.int .i64 0,.string ⟨#[]⟩,.slice none 0 0] 40 (0,0)):=by rw[A];exact yci.2.2
 have H:wc.heap.size=W.heap.size+3:=by rw[A];simp
 have B0:Below W W wc:=by rw[A];exact((zal).alloc (by simp) _).alloc (by simp;omega) _
 have HB:=zh2 B0 H;obtain⟨c0,c1,c2,c3,c4,c5,c6,c7,c8,cl,_⟩:=ygt Z;obtain⟨U,T,S,R,Q,P,O,N,M,L,z10,J,K⟩:=yaB X;obtain⟨r,q,p,n,m,l,k,i,g,f,G,c,d⟩:=yaB Y;have HH:=zh3 Z X Y;clear Z X Y H B0;clear C ht hb ht2;go_in;go_upto_region 3 with(fail);rw[<-A];clear A;go_upto_region 4 with(fail);go_region_law ((go_simp;go_at_call 57;refine(SA.o _).mono ?_;rintro e w1 ⟨rfl,hw⟩;subst hw))
 all_goals
  go_upto_region 15 with(fail);refine yaa ?_;intro w2 B;have I:w2.heap[W.heap.size+1+1]? =some (.cells #[.int .i64 0,t,.int .i64 11,a,.int .i64 (ygS t b),.string ⟨#[]⟩,.string ⟨#[]⟩,.int .i64 0,.int .i64 0,.string ⟨#[]⟩,.slice none 0 0] 40 (0,0)):=by
   rw[B];have:=HH.o.2.2;simp[World.setCell,World.drew,zni,this]
  have E:w2.heap[W.heap.size+1]? =some (.cells #[.int .i64 0,.int .i64 0,.int .i64 0,.int .i64 0,.int .i64 0,.string ⟨#[]⟩,.string ⟨#[]⟩,.int .i64 0,.int .i64 0,.string ⟨#[]⟩,.slice none 0 0] 40 (0,0)):=by
   rw[B];have:=HH.o.2.1;simp[World.setCell,World.drew,zni,this]
  have z:Keeps (fun j=>j=W+1+1) wc w2:=by
   rw[B]
   repeat(first|with_reducible exact Keeps.refl _ _|with_reducible refine Keeps.drew ?_|(refine Keeps.setCell ?_ (Or.inl ?h) _;case h=>rfl))
  clear U T S R Q P O N M L z10 J K r q p n m l k i g f G c d B;obtain⟨U,T,S,R,Q,P,O,N,M,L,z10,J,K⟩:=yaB E;obtain⟨r,q,p,n,m,l,k,i,g,f,G,c,d⟩:=yaB I;have HK:=zhd z;have s:=zhd E;clear I E z;go_wp2_with fail;refine ycC ?_;intro w3 D;have V:w3.heap[W.heap.size+1]? =some (.cells #[.int .i64 0,t,.int .i64 11,a,.int .i64 (ygS t b),.string ⟨#[]⟩,.string ⟨#[]⟩,.int .i64 0,.int .i64 0,.string ⟨#[]⟩,.slice none 0 0] 40 (0,0)):=by
   rw[D];have:=s.o;simp[World.setCell,zni,this]
  have K3:Keeps (fun j=>j=W+1) w2 w3:=by
   rw[D]
   repeat(first|with_reducible exact Keeps.refl _ _|(refine Keeps.setCell ?_ (Or.inl ?h) _;case h=>rfl))
  clear D U T S R Q P O N M L z10 J K r q p n m l k i g f G c d;obtain⟨U,T,S,R,Q,P,O,N,M,L,z10,J,K⟩:=yaB V;refine zng (v:=.agg #[.int .i64 0,t,.int .i64 11,a,.int .i64 (ygS t b),.string ⟨#[]⟩,.string ⟨#[]⟩,.int .i64 0,.int .i64 0,.string ⟨#[]⟩,.slice none 0 0]) (by simp only[results,Tryz.results20];go_simp) rfl ?_;have y:=HB.o.1;have h2:=HB.o.2;have u:=y.trans (HK.o.below y.size (fun j hj e=>by omega));exact⟨_,_,_,_,_,_,by rw[HE.o],zhd ⟨by rw[HE.o];exact yaH _ _,u.trans (K3.below u.size (fun j hj e=>by omega))⟩⟩
theorem ynz
  (t a b:Int)(nm:ByteArray)(vk vn:Int)(vs:ByteArray)(la:Option Addr)(ln lc:Nat)(x:Val)(F:Nat->Prop)(W:World)(C:CF F W ⟨vk,vn,vs,la,ln,lc⟩ x)
  (hz:szV x<=1073741824):
  Calls Tryz.prog 20 #[.agg #[.int .i64 4,t,a,b,nm,vk,vn,vs,.slice la ln lc]] W (yeM W ⟨4,t,a,b,nm,x⟩)
  :=by
 have HE:=zhd (show evOfC ⟨4,t,a,b,nm,x⟩=⟨0,t,16,0,0,⟨#[]⟩,⟨#[]⟩,yab x⟩ by unfold evOfC;rfl);obtain⟨wc,A⟩:∃wc,wc=((W.alloc (.cells #[.int .i64 4,t,a,b,nm,vk,vn,vs,.slice la ln lc] 52)).alloc (.cells #[.int .i64 0,.int .i64 0,.int .i64 0,.int .i64 0,.int .i64 0,.string ⟨#[]⟩,.string ⟨#[]⟩,.int .i64 0,.int .i64 0,.string ⟨#[]⟩,.slice none 0 0] 40)).alloc (.cells #[.int .i64 0,t,.int .i64 0,.int .i64 0,.int .i64 0,.string ⟨#[]⟩,.string ⟨#[]⟩,.int .i64 0,.int .i64 0,.string ⟨#[]⟩,.slice none 0 0] 40):=⟨_,rfl⟩;have hA:wc.heap[W.heap.size]? =some (.cells #[.int .i64 4,t,a,b,nm,vk,vn,vs,.slice la ln lc] 52 (0,0)):=by rw[A];exact yci.1
 have hZ:wc.heap[W.heap.size+1]? =some (.cells #[.int .i64 0,.int .i64 0,.int .i64 0,.int .i64 0,.int .i64 0,.string ⟨#[]⟩,.string ⟨#[]⟩,.int .i64 0,.int .i64 0,.string ⟨#[]⟩,.slice none 0 0] 40 (0,0)):=by rw[A];exact yci.2.1
 have hE:wc.heap[W.heap.size+1+1]? =some (.cells #[.int .i64 0,t,.int .i64 0,.int .i64 0,.int .i64 0,.string ⟨#[]⟩,.string ⟨#[]⟩,.int .i64 0,.int .i64 0,.string ⟨#[]⟩,.slice none 0 0] 40 (0,0)):=by rw[A];exact yci.2.2
 have i:wc.heap.size=W.heap.size+3:=by rw[A];simp
 have B0:Below W W wc:=by rw[A];exact((zal).alloc (by simp) _).alloc (by simp;omega) _
 have HB:=zh2 B0 i;obtain⟨c0,c1,c2,c3,c4,c5,c6,c7,c8,cl,_⟩:=ygt hA;obtain⟨d,c,Z,Y,X,V,U,T,R,Q,z10,O,P⟩:=yaB hZ;obtain⟨e0,e1,z,y,u,s,r,q,p,n,D,l,m⟩:=yaB hE;have HH:=zh3 hA hZ hE;clear hA hZ hE i B0;have CL:=zhd (yax x vk vn vs la ln lc _ wc (C.keep (S:=fun _=>False) (zkb HB.o.1) (fun _ _ f=>f)) hz);clear C hz;go_in;go_upto_region 3 with(fail);rw[<-A];clear A;go_wp2_with fail;refine CL.o.mono ?_;rintro e w1 ⟨⟨k8,n8,s8,J,H,I⟩,rfl,H1⟩;have M:=(H1.o.2.block (W.heap.size+1) (by rw[HB.o.2];omega)).trans HH.o.2.1;have N:=(H1.o.2.block (W.heap.size+1+1) (by rw[HB.o.2];omega)).trans HH.o.2.2;clear c0 c1 c2 c3 c4 c5 c6 c7 c8 cl d c Z Y X V U T R Q z10 O P e0 e1 z y u s r q p n D l m;obtain⟨d,c,Z,Y,X,V,U,T,R,Q,z10,O,P⟩:=yaB M;obtain⟨e0,e1,z,y,u,s,r,q,p,n,D,l,m⟩:=yaB N;have Ad:=zhd M;have Ae:=zhd N;clear M N;go_upto_region 15 with(fail);refine yaa ?_;intro w2 E
 have k:w2.heap[W.heap.size+1+1]? =some (.cells #[.int .i64 0,t,.int .i64 16,.int .i64 0,.int .i64 0,.string ⟨#[]⟩,.string ⟨#[]⟩,k8,n8,s8,.slice J H I] 40 (0,0)):=by
  rw[E];have:=Ae.o;simp[World.setCell,World.drew,zni,this]
 have L:w2.heap[W.heap.size+1]? =some (.cells #[.int .i64 0,.int .i64 0,.int .i64 0,.int .i64 0,.int .i64 0,.string ⟨#[]⟩,.string ⟨#[]⟩,.int .i64 0,.int .i64 0,.string ⟨#[]⟩,.slice none 0 0] 40 (0,0)):=by
  rw[E];have:=Ad.o;simp[World.setCell,World.drew,zni,this]
 have K2:Keeps (fun j=>j=W+1+1) w1 w2:=by
  rw[E]
  repeat(first|with_reducible exact Keeps.refl _ _|with_reducible refine Keeps.drew ?_|(refine Keeps.setCell ?_ (Or.inl ?h) _;case h=>rfl))
 clear d c Z Y X V U T R Q z10 O P e0 e1 z y u s r q p n D l m E;obtain⟨d,c,Z,Y,X,V,U,T,R,Q,z10,O,P⟩:=yaB L;obtain⟨e0,e1,z,y,u,s,r,q,p,n,D,l,m⟩:=yaB k;have HK:=zhd K2;have Ac:=zhd L;clear k L K2;go_wp2_with fail;refine ycC ?_;intro w3 K;have Aa:w3.heap[W.heap.size+1]? =some (.cells #[.int .i64 0,t,.int .i64 16,.int .i64 0,.int .i64 0,.string ⟨#[]⟩,.string ⟨#[]⟩,k8,n8,s8,.slice J H I] 40 (0,0)):=by
  rw[K];have:=Ac.o;simp[World.setCell,zni,this]
 have K3:Keeps (fun j=>j=W+1) w2 w3:=by
  rw[K]
  repeat(first|with_reducible exact Keeps.refl _ _|(refine Keeps.setCell ?_ (Or.inl ?h) _;case h=>rfl))
 clear K d c Z Y X V U T R Q z10 O P e0 e1 z y u s r q p n D l m;obtain⟨d,c,Z,Y,X,V,U,T,R,Q,z10,O,P⟩:=yaB Aa;refine zng (v:=.agg #[.int .i64 0,t,.int .i64 16,.int .i64 0,.int .i64 0,.string ⟨#[]⟩,.string ⟨#[]⟩,k8,n8,s8,.slice J H I]) (by simp only[results,Tryz.results20];go_simp) rfl ?_;have h1:=HB.o.1;have hq:=HB.o.2;have h2:=h1.trans (((znv wc.heap.size wc).trans H1.o.2).mono h1.size);have h3:=h2.trans (HK.o.below h2.size (fun j hj e=>by omega));have hC:=H1.o.1.mono (G:=fun g=>W.heap.size+3<=g) (fun g B _=>by have B:wc<=g:=B;have e:wc.heap.size=wc.heap.size:=rfl;omega);have Ab:=(hC.keep HK.o (fun g B e=>by have B:W.heap.size+3<=g:=B;omega)).keep K3 (fun g B e=>by have B:W.heap.size+3<=g:=B;omega);exact⟨_,_,_,_,_,_,by rw[HE.o],zhd ⟨by rw[HE.o];exact Ab.mono (fun g B _=>by have B:W.heap.size+3<=g:=B;show W<=g;omega),h3.trans (K3.below h3.size (fun j hj e=>by omega))⟩⟩
theorem ynx
  (t a b:Int)(nm:ByteArray)(vk vn:Int)(vs:ByteArray)(la:Option Addr)(ln lc:Nat)(x:Val)(F:Nat->Prop)(W:World)(C:CF F W ⟨vk,vn,vs,la,ln,lc⟩ x)
  (hz:szV x<=1073741824):
  Calls Tryz.prog 20 #[.agg #[.int .i64 6,t,a,b,nm,vk,vn,vs,.slice la ln lc]] W (yeM W ⟨6,t,a,b,nm,x⟩)
  :=by
 have HE:=zhd (show evOfC ⟨6,t,a,b,nm,x⟩=⟨0,t,21,0,0,⟨#[]⟩,⟨#[]⟩,yab x⟩ by unfold evOfC;rfl);obtain⟨wc,A⟩:∃wc,wc=((W.alloc (.cells #[.int .i64 6,t,a,b,nm,vk,vn,vs,.slice la ln lc] 52)).alloc (.cells #[.int .i64 0,.int .i64 0,.int .i64 0,.int .i64 0,.int .i64 0,.string ⟨#[]⟩,.string ⟨#[]⟩,.int .i64 0,.int .i64 0,.string ⟨#[]⟩,.slice none 0 0] 40)).alloc (.cells #[.int .i64 0,t,.int .i64 0,.int .i64 0,.int .i64 0,.string ⟨#[]⟩,.string ⟨#[]⟩,.int .i64 0,.int .i64 0,.string ⟨#[]⟩,.slice none 0 0] 40):=⟨_,rfl⟩;have hA:wc.heap[W.heap.size]? =some (.cells #[.int .i64 6,t,a,b,nm,vk,vn,vs,.slice la ln lc] 52 (0,0)):=by rw[A];exact yci.1
 have hZ:wc.heap[W.heap.size+1]? =some (.cells #[.int .i64 0,.int .i64 0,.int .i64 0,.int .i64 0,.int .i64 0,.string ⟨#[]⟩,.string ⟨#[]⟩,.int .i64 0,.int .i64 0,.string ⟨#[]⟩,.slice none 0 0] 40 (0,0)):=by rw[A];exact yci.2.1
 have hE:wc.heap[W.heap.size+1+1]? =some (.cells #[.int .i64 0,t,.int .i64 0,.int .i64 0,.int .i64 0,.string ⟨#[]⟩,.string ⟨#[]⟩,.int .i64 0,.int .i64 0,.string ⟨#[]⟩,.slice none 0 0] 40 (0,0)):=by rw[A];exact yci.2.2
 have i:wc.heap.size=W.heap.size+3:=by rw[A];simp
 have B0:Below W W wc:=by rw[A];exact((zal).alloc (by simp) _).alloc (by simp;omega) _
 have HB:=zh2 B0 i;obtain⟨c0,c1,c2,c3,c4,c5,c6,c7,c8,cl,_⟩:=ygt hA;obtain⟨d,c,Z,Y,X,V,U,T,R,Q,z10,O,P⟩:=yaB hZ;obtain⟨e0,e1,z,y,u,s,r,q,p,n,D,l,m⟩:=yaB hE;have HH:=zh3 hA hZ hE;clear hA hZ hE i B0;have CL:=zhd (yax x vk vn vs la ln lc _ wc (C.keep (S:=fun _=>False) (zkb HB.o.1) (fun _ _ f=>f)) hz);clear C hz;go_in;go_upto_region 3 with(fail);rw[<-A];clear A;go_wp2_with fail;refine CL.o.mono ?_;rintro e w1 ⟨⟨k8,n8,s8,J,H,I⟩,rfl,H1⟩;have M:=(H1.o.2.block (W.heap.size+1) (by rw[HB.o.2];omega)).trans HH.o.2.1;have N:=(H1.o.2.block (W.heap.size+1+1) (by rw[HB.o.2];omega)).trans HH.o.2.2;clear c0 c1 c2 c3 c4 c5 c6 c7 c8 cl d c Z Y X V U T R Q z10 O P e0 e1 z y u s r q p n D l m;obtain⟨d,c,Z,Y,X,V,U,T,R,Q,z10,O,P⟩:=yaB M;obtain⟨e0,e1,z,y,u,s,r,q,p,n,D,l,m⟩:=yaB N;have Ad:=zhd M;have Ae:=zhd N;clear M N;go_upto_region 15 with(fail);refine yaa ?_;intro w2 E
 have k:w2.heap[W.heap.size+1+1]? =some (.cells #[.int .i64 0,t,.int .i64 21,.int .i64 0,.int .i64 0,.string ⟨#[]⟩,.string ⟨#[]⟩,k8,n8,s8,.slice J H I] 40 (0,0)):=by
  rw[E];have:=Ae.o;simp[World.setCell,World.drew,zni,this]
 have L:w2.heap[W.heap.size+1]? =some (.cells #[.int .i64 0,.int .i64 0,.int .i64 0,.int .i64 0,.int .i64 0,.string ⟨#[]⟩,.string ⟨#[]⟩,.int .i64 0,.int .i64 0,.string ⟨#[]⟩,.slice none 0 0] 40 (0,0)):=by
  rw[E];have:=Ad.o;simp[World.setCell,World.drew,zni,this]
 have K2:Keeps (fun j=>j=W+1+1) w1 w2:=by
  rw[E]
  repeat(first|with_reducible exact Keeps.refl _ _|with_reducible refine Keeps.drew ?_|(refine Keeps.setCell ?_ (Or.inl ?h) _;case h=>rfl))
 clear d c Z Y X V U T R Q z10 O P e0 e1 z y u s r q p n D l m E;obtain⟨d,c,Z,Y,X,V,U,T,R,Q,z10,O,P⟩:=yaB L;obtain⟨e0,e1,z,y,u,s,r,q,p,n,D,l,m⟩:=yaB k;have HK:=zhd K2;have Ac:=zhd L;clear k L K2;go_wp2_with fail;refine ycC ?_;intro w3 K;have Aa:w3.heap[W.heap.size+1]? =some (.cells #[.int .i64 0,t,.int .i64 21,.int .i64 0,.int .i64 0,.string ⟨#[]⟩,.string ⟨#[]⟩,k8,n8,s8,.slice J H I] 40 (0,0)):=by
  rw[K];have:=Ac.o;simp[World.setCell,zni,this]
 have K3:Keeps (fun j=>j=W+1) w2 w3:=by
  rw[K]
  repeat(first|with_reducible exact Keeps.refl _ _|(refine Keeps.setCell ?_ (Or.inl ?h) _;case h=>rfl))
 clear K d c Z Y X V U T R Q z10 O P e0 e1 z y u s r q p n D l m;obtain⟨d,c,Z,Y,X,V,U,T,R,Q,z10,O,P⟩:=yaB Aa;refine zng (v:=.agg #[.int .i64 0,t,.int .i64 21,.int .i64 0,.int .i64 0,.string ⟨#[]⟩,.string ⟨#[]⟩,k8,n8,s8,.slice J H I]) (by simp only[results,Tryz.results20];go_simp) rfl ?_;have h1:=HB.o.1;have hq:=HB.o.2;have h2:=h1.trans (((znv wc.heap.size wc).trans H1.o.2).mono h1.size);have h3:=h2.trans (HK.o.below h2.size (fun j hj e=>by omega));have hC:=H1.o.1.mono (G:=fun g=>W.heap.size+3<=g) (fun g B _=>by have B:wc<=g:=B;have e:wc.heap.size=wc.heap.size:=rfl;omega);have Ab:=(hC.keep HK.o (fun g B e=>by have B:W.heap.size+3<=g:=B;omega)).keep K3 (fun g B e=>by have B:W.heap.size+3<=g:=B;omega);exact⟨_,_,_,_,_,_,by rw[HE.o],zhd ⟨by rw[HE.o];exact Ab.mono (fun g B _=>by have B:W.heap.size+3<=g:=B;show W<=g;omega),h3.trans (K3.below h3.size (fun j hj e=>by omega))⟩⟩
theorem ynA
  (t a b:Int)(nm:ByteArray)(vk vn:Int)(vs:ByteArray)(la:Option Addr)(ln lc:Nat)(x:Val)(F:Nat->Prop)(W:World)(C:CF F W ⟨vk,vn,vs,la,ln,lc⟩ x)
  (hz:szV x<=1073741824):
  Calls Tryz.prog 20 #[.agg #[.int .i64 3,t,a,b,nm,vk,vn,vs,.slice la ln lc]] W (yeM W ⟨3,t,a,b,nm,x⟩)
  :=by
 have HE:=zhd (show evOfC ⟨3,t,a,b,nm,x⟩=⟨0,t,7,a,b,nm,⟨#[]⟩,yab x⟩ by unfold evOfC;rfl);obtain⟨wc,A⟩:∃wc,wc=((W.alloc (.cells #[.int .i64 3,t,a,b,nm,vk,vn,vs,.slice la ln lc] 52)).alloc (.cells #[.int .i64 0,.int .i64 0,.int .i64 0,.int .i64 0,.int .i64 0,.string ⟨#[]⟩,.string ⟨#[]⟩,.int .i64 0,.int .i64 0,.string ⟨#[]⟩,.slice none 0 0] 40)).alloc (.cells #[.int .i64 0,t,.int .i64 0,.int .i64 0,.int .i64 0,.string ⟨#[]⟩,.string ⟨#[]⟩,.int .i64 0,.int .i64 0,.string ⟨#[]⟩,.slice none 0 0] 40):=⟨_,rfl⟩;have hA:wc.heap[W.heap.size]? =some (.cells #[.int .i64 3,t,a,b,nm,vk,vn,vs,.slice la ln lc] 52 (0,0)):=by rw[A];exact yci.1
 have hZ:wc.heap[W.heap.size+1]? =some (.cells #[.int .i64 0,.int .i64 0,.int .i64 0,.int .i64 0,.int .i64 0,.string ⟨#[]⟩,.string ⟨#[]⟩,.int .i64 0,.int .i64 0,.string ⟨#[]⟩,.slice none 0 0] 40 (0,0)):=by rw[A];exact yci.2.1
 have hE:wc.heap[W.heap.size+1+1]? =some (.cells #[.int .i64 0,t,.int .i64 0,.int .i64 0,.int .i64 0,.string ⟨#[]⟩,.string ⟨#[]⟩,.int .i64 0,.int .i64 0,.string ⟨#[]⟩,.slice none 0 0] 40 (0,0)):=by rw[A];exact yci.2.2
 have i:wc.heap.size=W.heap.size+3:=by rw[A];simp
 have B0:Below W W wc:=by rw[A];exact((zal).alloc (by simp) _).alloc (by simp;omega) _
 have HB:=zh2 B0 i;obtain⟨c0,c1,c2,c3,c4,c5,c6,c7,c8,cl,_⟩:=ygt hA;obtain⟨d,c,Z,Y,X,V,U,T,R,Q,z10,O,P⟩:=yaB hZ;obtain⟨e0,e1,e2,e3,z,y,u,s,r,q,E,m,p⟩:=yaB hE;have HH:=zh3 hA hZ hE;clear hA hZ hE i B0;have CL:=zhd (yax x vk vn vs la ln lc _ wc.drew ((C.keep (S:=fun _=>False) (zkb HB.o.1) (fun _ _ f=>f)).keep (S:=fun _=>False) (zkb (znv _ _).drew) (fun _ _ f=>f)) hz);clear C hz;go_in;go_upto_region 3 with(fail);rw[<-A];clear A;go_upto_region 8 with(fail);have s1:wc.drew.cell? ⟨W,2,none⟩=some (.int .i64 a):=c2;have s2:wc.drew.cell? ⟨W,3,none⟩=some (.int .i64 b):=c3;have s3:wc.drew.cell? ⟨W,4,none⟩=some (.string nm):=c4;have s4:wc.drew.cell? ⟨W,5,none⟩=some (.int .i64 vk):=c5;have s5:wc.drew.cell? ⟨W,6,none⟩=some (.int .i64 vn):=c6;have s6:wc.drew.cell? ⟨W,7,none⟩=some (.string vs):=c7;have s7:wc.drew.cell? ⟨W,8,none⟩=some (.slice la ln lc):=c8
 go_region_held3 (fun W1=>W1.cell? ⟨W,2,none⟩=some (.int .i64 a)/\W1.cell? ⟨W,3,none⟩=some (.int .i64 b)/\W1.cell? ⟨W,4,none⟩=some (.string nm)/\W1.cell? ⟨W,5,none⟩=some (.int .i64 vk)/\W1.cell? ⟨W,6,none⟩=some (.int .i64 vn)/\W1.cell? ⟨W,7,none⟩=some (.string vs)/\W1.cell? ⟨W,8,none⟩=some (.slice la ln lc)) (first|with_reducible exact⟨s1,s2,s3,s4,s5,s6,s7⟩|with_reducible exact⟨t1,t2,t3,t4,t5,t6,t7⟩|go_keep|go_simp) ((go_at_call 58;refine CL.o.mono ?_;rintro e w1 ⟨⟨k8,n8,s8,J,H,I⟩,rfl,n⟩;have l:=(n.o.2.block W cl).trans HH.o.1;have N:=(n.o.2.block (W.heap.size+1+1) m).trans HH.o.2.2;have M:=(n.o.2.block (W.heap.size+1) O).trans HH.o.2.1;obtain⟨_,_,t1,t2,t3,t4,t5,t6,t7,tl,_⟩:=ygt l;obtain⟨e0,e1,e2,e3,z,y,u,s,r,q,E,m,p⟩:=yaB N;obtain⟨d,c,Z,Y,X,V,U,T,R,Q,z10,O,P⟩:=yaB M;have Ae:=zhd N;have Ad:=zhd M;clear l N M))
 all_goals
  go_upto_region 15 with(fail);refine yaa ?_;intro w2 D;have k:w2.heap[W.heap.size+1+1]? =some (.cells #[.int .i64 0,t,.int .i64 7,a,b,nm,.string ⟨#[]⟩,k8,n8,s8,.slice J H I] 40 (0,0)):=by
   rw[D];have:=Ae.o;simp[World.setCell,World.drew,zni,this]
  have L:w2.heap[W.heap.size+1]? =some (.cells #[.int .i64 0,.int .i64 0,.int .i64 0,.int .i64 0,.int .i64 0,.string ⟨#[]⟩,.string ⟨#[]⟩,.int .i64 0,.int .i64 0,.string ⟨#[]⟩,.slice none 0 0] 40 (0,0)):=by
   rw[D];have:=Ad.o;simp[World.setCell,World.drew,zni,this]
  have K2:Keeps (fun j=>j=W+1+1) w1 w2:=by
   rw[D]
   repeat(first|with_reducible exact Keeps.refl _ _|with_reducible refine Keeps.drew ?_|(refine Keeps.setCell ?_ (Or.inl ?h) _;case h=>rfl))
  clear d c Z Y X V U T R Q z10 O P e0 e1 e2 e3 z y u s r q E m p D;obtain⟨d,c,Z,Y,X,V,U,T,R,Q,z10,O,P⟩:=yaB L;obtain⟨e0,e1,e2,e3,z,y,u,s,r,q,E,m,p⟩:=yaB k;have HK:=zhd K2;have Ac:=zhd L;clear k L K2;go_wp2_with fail;refine ycC ?_;intro w3 K;have Aa:w3.heap[W.heap.size+1]? =some (.cells #[.int .i64 0,t,.int .i64 7,a,b,nm,.string ⟨#[]⟩,k8,n8,s8,.slice J H I] 40 (0,0)):=by
   rw[K];have:=Ac.o;simp[World.setCell,zni,this]
  have K3:Keeps (fun j=>j=W+1) w2 w3:=by
   rw[K]
   repeat(first|with_reducible exact Keeps.refl _ _|(refine Keeps.setCell ?_ (Or.inl ?h) _;case h=>rfl))
  clear K d c Z Y X V U T R Q z10 O P e0 e1 e2 e3 z y u s r q E m p;obtain⟨d,c,Z,Y,X,V,U,T,R,Q,z10,O,P⟩:=yaB Aa;refine zng (v:=.agg #[.int .i64 0,t,.int .i64 7,a,b,nm,.string ⟨#[]⟩,k8,n8,s8,.slice J H I]) (by simp only[results,Tryz.results20];go_simp) rfl ?_;have h1:=HB.o.1;have hq:=HB.o.2;have h2:=h1.trans (((znv wc.heap.size wc).drew.trans n.o.2).mono h1.size);have h3:=h2.trans (HK.o.below h2.size (fun j hj e=>by omega));have hC:=n.o.1.mono (G:=fun g=>W.heap.size+3<=g) (fun g B _=>by have B:wc.drew.heap.size<=g:=B;have e:wc.drew.heap.size=wc.heap.size:=rfl;omega);have Ab:=(hC.keep HK.o (fun g B e=>by have B:W.heap.size+3<=g:=B;omega)).keep K3 (fun g B e=>by have B:W.heap.size+3<=g:=B;omega);exact⟨_,_,_,_,_,_,by rw[HE.o],zhd ⟨by rw[HE.o];exact Ab.mono (fun g B _=>by have B:W.heap.size+3<=g:=B;show W<=g;omega),h3.trans (K3.below h3.size (fun j hj e=>by omega))⟩⟩
theorem yca (c:Cm)(hc:yaV c=0)(hz:szV c.v<=1073741824)(vk vn:Int)(vs:ByteArray)(la:Option Addr)(ln lc:Nat)(F:Nat->Prop)(W:World)(C:CF F W ⟨vk,vn,vs,la,ln,lc⟩ c.v):
  Calls Tryz.prog 20 #[.agg #[c.kind,c.time,c.a,c.b,c.name,vk,vn,vs,.slice la ln lc]] W (yeM W c):=by
 obtain⟨⟨E,D⟩,H,B,G,hv,hk⟩:=ydS hc;obtain⟨k,t,a,b,A,x⟩:=c;dsimp only at*;rcases hk with⟨rfl,_,_⟩|⟨rfl,_,_⟩|rfl|⟨rfl,_,_⟩|⟨rfl,_,_⟩|⟨rfl,_,_⟩
 .exact ynC t a b A vk vn vs la ln lc x F W C E B D
 .exact ynB t a b A vk vn vs la ln lc x F W C
 .exact ynA t a b A vk vn vs la ln lc x F W C hz
 .exact ynz t a b A vk vn vs la ln lc x F W C hz
 .exact yny t a b A vk vn vs la ln lc x F W C
 .exact ynx t a b A vk vn vs la ln lc x F W C hz
end Go.Proofs.YtpagmlndgblhhaaGreatDoor
