/- Parts of the proof: what the functions and the plain laws give that later parts lean on. Conditions: none beyond those that each theorem names. -/
import Derived.Test.YtpagmlndgblhhaaGreatDoorW17
set_option maxRecDepth 100000
set_option maxHeartbeats 8000000
namespace Go.Proofs.YtpagmlndgblhhaaGreatDoor
set_option linter.unusedSimpArgs false
open Go.RowKit Go.Own Go.Own.MapTy Go.Va Go.Sort
open Go.Own.Cells (sz enc)
set_option linter.unusedVariables false
theorem yaW {w:World}{g:Nat}{ty:TypeId}{id t k a b:Int}{nm tx:ByteArray}{vk vn:Int}{vs:ByteArray}{la:Option Addr}{ln lc:Nat}(h:w.heap[g]? =some (.cells #[id,t,k,a,b,nm,tx,vk,vn,vs,.slice la ln lc] ty (0,0))):w.cell? ⟨g,0,none⟩=some (.int .i64 id)/\w.cell? ⟨g,1,none⟩=some (.int .i64 t)/\w.cell? ⟨g,2,none⟩=some (.int .i64 k)/\w.cell? ⟨g,3,none⟩=some (.int .i64 a)/\w.cell? ⟨g,4,none⟩=some (.int .i64 b)/\w.cell? ⟨g,5,none⟩=some (.string nm)/\w.cell? ⟨g,6,none⟩=some (.string tx)/\w.cell? ⟨g,7,none⟩=some (.int .i64 vk)/\w.cell? ⟨g,8,none⟩=some (.int .i64 vn)/\w.cell? ⟨g,9,none⟩=some (.string vs)/\w.cell? ⟨g,10,none⟩=some (.slice la ln lc)/\g<w/\∀o,w.frozen? ⟨g,o,none⟩=false:=
 ⟨(by rw[zch h];rfl),(by rw[zch h];rfl),(by rw[zch h];rfl),(by rw[zch h];rfl),(by rw[zch h];rfl),(by rw[zch h];rfl),(by rw[zch h];rfl),(by rw[zch h];rfl),(by rw[zch h];rfl),(by rw[zch h];rfl),(by rw[zch h];rfl),zlt h,fun o=>zfr h o⟩
theorem yjH {w:World}{g:Nat}{ty:TypeId}{k t a b:Int}{nm:ByteArray}{vk vn:Int}{vs:ByteArray}{la:Option Addr}{ln lc:Nat}(h:w.heap[g]? =some (.cells #[k,t,a,b,nm,vk,vn,vs,.slice la ln lc] ty (0,0))):w.cell? ⟨g,0,none⟩=some (.int .i64 k)/\w.cell? ⟨g,1,none⟩=some (.int .i64 t)/\w.cell? ⟨g,2,none⟩=some (.int .i64 a)/\w.cell? ⟨g,3,none⟩=some (.int .i64 b)/\w.cell? ⟨g,4,none⟩=some (.string nm)/\w.cell? ⟨g,5,none⟩=some (.int .i64 vk)/\w.cell? ⟨g,6,none⟩=some (.int .i64 vn)/\w.cell? ⟨g,7,none⟩=some (.string vs)/\w.cell? ⟨g,8,none⟩=some (.slice la ln lc)/\g<w/\∀o,w.frozen? ⟨g,o,none⟩=false:=
 ⟨(by rw[zch h];rfl),(by rw[zch h];rfl),(by rw[zch h];rfl),(by rw[zch h];rfl),(by rw[zch h];rfl),(by rw[zch h];rfl),(by rw[zch h];rfl),(by rw[zch h];rfl),(by rw[zch h];rfl),zlt h,fun o=>zfr h o⟩
theorem yc8 {F:Nat->Prop}{W:World}{ea:Option Addr}{en ec:Nat}{l:List Ev}(E:XRd F W (.slice ea en ec) l){i:Nat}{e:Ev}(he:l[i]? =some e):∃(g off:Nat) (vk vn:Int) (vs:ByteArray) (la:Option Addr) (ln lc:Nat),ea=some ⟨g,off,none⟩/\F g/\g<W/\CF F W ⟨vk,vn,vs,la,ln,lc⟩ e.v/\W.cell? ⟨g,off+i*11,none⟩=some (.int .i64 e.id)/\W.cell? ⟨g,off+i*11+1,none⟩=some (.int .i64 e.time)/\W.cell? ⟨g,off+i*11+2,none⟩=some (.int .i64 e.kind)/\W.cell? ⟨g,off+i*11+3,none⟩=some (.int .i64 e.a)/\W.cell? ⟨g,off+i*11+4,none⟩=some (.int .i64 e.b)/\W.cell? ⟨g,off+i*11+5,none⟩=some (.string e.name)/\W.cell? ⟨g,off+i*11+6,none⟩=some (.string e.text)/\W.cell? ⟨g,off+i*11+7,none⟩=some (.int .i64 vk)/\W.cell? ⟨g,off+i*11+8,none⟩=some (.int .i64 vn)/\W.cell? ⟨g,off+i*11+9,none⟩=some (.string vs)/\W.cell? ⟨g,off+i*11+10,none⟩=some (.slice la ln lc):=by
 obtain⟨g,off,⟨Z,Y,X,V,U,T,S,⟨P,N,M,R,O,Q⟩⟩,d,f,c,hrel,A⟩:=E.at_ he;have B:EvF F W ⟨Z,Y,X,V,U,T,S,⟨P,N,M,R,O,Q⟩⟩ e:=hrel;obtain⟨L,K,J,I,H,G,D,C⟩:=B;dsimp only at L K J I H G D C;subst L K J I H G D;exact⟨g,off,_,_,_,_,_,_,d,f,c,C,A 0 _ rfl,A 1 _ rfl,A 2 _ rfl,A 3 _ rfl,A 4 _ rfl,A 5 _ rfl,A 6 _ rfl,A 7 _ rfl,A 8 _ rfl,A 9 _ rfl,A 10 _ rfl⟩
theorem yoN {F:Nat->Prop}{W:World}{ea:Option Addr}{en ec:Nat}{l:List Cm}(E:XRd F W (.slice ea en ec) l){i:Nat}{e:Cm}(he:l[i]? =some e):∃(g off:Nat) (vk vn:Int) (vs:ByteArray) (la:Option Addr) (ln lc:Nat),ea=some ⟨g,off,none⟩/\F g/\g<W/\CF F W ⟨vk,vn,vs,la,ln,lc⟩ e.v/\W.cell? ⟨g,off+i*9,none⟩=some (.int .i64 e.kind)/\W.cell? ⟨g,off+i*9+1,none⟩=some (.int .i64 e.time)/\W.cell? ⟨g,off+i*9+2,none⟩=some (.int .i64 e.a)/\W.cell? ⟨g,off+i*9+3,none⟩=some (.int .i64 e.b)/\W.cell? ⟨g,off+i*9+4,none⟩=some (.string e.name)/\W.cell? ⟨g,off+i*9+5,none⟩=some (.int .i64 vk)/\W.cell? ⟨g,off+i*9+6,none⟩=some (.int .i64 vn)/\W.cell? ⟨g,off+i*9+7,none⟩=some (.string vs)/\W.cell? ⟨g,off+i*9+8,none⟩=some (.slice la ln lc):=by
 obtain⟨g,off,⟨U,T,S,R,Q,⟨N,L,K,P,M,O⟩⟩,X,Y,V,hrel,A⟩:=E.at_ he;have B:CmF F W ⟨U,T,S,R,Q,⟨N,L,K,P,M,O⟩⟩ e:=hrel;obtain⟨J,I,H,G,D,C⟩:=B;dsimp only at J I H G D C;subst J I H G D;exact⟨g,off,_,_,_,_,_,_,X,Y,V,C,A 0 _ rfl,A 1 _ rfl,A 2 _ rfl,A 3 _ rfl,A 4 _ rfl,A 5 _ rfl,A 6 _ rfl,A 7 _ rfl,A 8 _ rfl⟩
theorem ymW (x y:Int)(W:World)(hx:0<=x)(hy:0<=y)(hx2:x<=4611686018427387903):Calls Tryz.prog 57 #[x,y] W (fun e w'=>e= .returned (.int .i64 (yg9 x y))/\W=w'):=by
 have F:¬x<0:=by omega
 have D:¬y<0:=by omega
 have I:decide (x<0)=false:=znd F;have H:decide (y<0)=false:=znd D;by_cases h5:4611686018427387903<=x
 .have A:=zhd (show yg9 x y=4611686018427387903 by unfold yg9;rw[if_neg (by omega),if_pos (.inl h5)])
  have C:decide (4611686018427387903<=x)=true:=zno h5;go_in;go_wp2;go_ret;exact⟨by rw[A.o];rfl,rfl⟩
 .have C:decide (4611686018427387903<=x)=false:=znd h5
  have G:IntKind.i64.wrap (4611686018427387903 - x)=4611686018427387903 - x:=zmk _ (by omega);by_cases h8:4611686018427387903 - x<y
  .have A:=zhd (show yg9 x y=4611686018427387903 by unfold yg9;rw[if_neg (by omega),if_pos (.inr h8)])
   have B:decide (4611686018427387903 - x<y)=true:=zno h8;go_in;go_wp2;go_ret;exact⟨by rw[A.o];rfl,rfl⟩
  .have A:=zhd (show yg9 x y=x+y by unfold yg9;rw[if_neg (by omega),if_neg (by omega)])
   have B:decide (4611686018427387903 - x<y)=false:=znd h8;have E:IntKind.i64.wrap (x+y)=x+y:=zmk _ (by omega);go_in;go_wp2;go_ret;exact⟨by rw[A.o];simp,rfl⟩
theorem ygF (id t k a b:Int)(nm tx:ByteArray)(vk vn:Int)(vs:ByteArray)(la:Option Addr)(ln lc:Nat)(w:World)(r:Bool)(hr:ybd k=r):
  Calls Tryz.prog 31 #[.agg #[id,t,k,a,b,nm,tx,vk,vn,vs,.slice la ln lc]] w (fun e w'=>e= .returned (.bool r)/\Below w w w'):=by
 subst hr;by_cases h11:k=11
 .subst h11
  go_in;go_wp2;go_ret;exact⟨rfl,zal⟩
 .have E:(k==11)=false:=by rw[zna];exact h11
  by_cases h13:k=13
  .subst h13
   go_in;go_wp2;go_ret;exact⟨rfl,zal⟩
  .have D:(k==13)=false:=by rw[zna];exact h13
   by_cases h7:k=7
   .subst h7
    go_in;go_wp2;go_ret;exact⟨rfl,zal⟩
   .have G:(k==7)=false:=by rw[zna];exact h7
    by_cases h16:k=16
    .subst h16
     go_in;go_wp2;go_ret;exact⟨rfl,zal⟩
    .have C:(k==16)=false:=by rw[zna];exact h16
     by_cases h17:k=17
     .subst h17
      go_in;go_wp2;go_ret;exact⟨rfl,zal⟩
     .have B:(k==17)=false:=by rw[zna];exact h17
      by_cases h21:k=21
      .subst h21
       go_in;go_wp2;go_ret;exact⟨rfl,zal⟩
      .have A:(k==21)=false:=by rw[zna];exact h21
       have F:=zhd (show ybd k=false by unfold ybd;exact znd (by omega));clear h11 h13 h7 h16 h17 h21;go_in;go_wp2;go_ret;exact⟨by rw[F.o];rfl,zal⟩
def yiY (e f:Ev):Bool:=(e.id==f.id)&&((e.time==f.time)&&((e.kind==f.kind)&&((e.a==f.a)&&((e.b==f.b)&&(decide (e.name=f.name)&&(decide (e.text=f.text)&&(cmpV e.v f.v==0)))))))
theorem ykN (id t k a b:Int)(nm tx:ByteArray)(vk vn:Int)(vs:ByteArray)(la:Option Addr)(ln lc:Nat)(id' t' k' a' b':Int)(nm' tx':ByteArray)(vk' vn':Int)(vs':ByteArray)(la':Option Addr)(ln' lc':Nat)(x y:Val)(F F':Nat->Prop)(W:World)(C:CF F W ⟨vk,vn,vs,la,ln,lc⟩ x)(D:CF F' W ⟨vk',vn',vs',la',ln',lc'⟩ y)(r:Bool)(hr:yiY ⟨id,t,k,a,b,nm,tx,x⟩ ⟨id',t',k',a',b',nm',tx',y⟩=r):
  Calls Tryz.prog 117 #[.agg #[id,t,k,a,b,nm,tx,vk,vn,vs,.slice la ln lc],.agg #[id',t',k',a',b',nm',tx',vk',vn',vs',.slice la' ln' lc']] W (fun e w'=>e= .returned (.bool r)/\Below W W w'):=by
 obtain⟨w0,A⟩:∃w0,w0=(W.alloc (.cells #[id,t,k,a,b,nm,tx,vk,vn,vs,.slice la ln lc] 40)).alloc (.cells #[id',t',k',a',b',nm',tx',vk',vn',vs',.slice la' ln' lc'] 40):=⟨_,rfl⟩;have I:Below W W w0:=by rw[A];exact(zal).alloc (by simp) _
 have M:w0.heap[W.heap.size]? =some (.cells #[id,t,k,a,b,nm,tx,vk,vn,vs,.slice la ln lc] 40 (0,0)):=by rw[A];exact yaD
 have L:w0.heap[W.heap.size+1]? =some (.cells #[id',t',k',a',b',nm',tx',vk',vn',vs',.slice la' ln' lc'] 40 (0,0)):=by rw[A];exact yat
 obtain⟨c0,c1,c2,c3,v,u,s,q,p,n,K,m,_⟩:=yaW M;obtain⟨l,j,i,h,g,d,c,Z,Y,X,J,V,_⟩:=yaW L;have G:=zhd (yfx x y ⟨vk,vn,vs,la,ln,lc⟩ ⟨vk',vn',vs',la',ln',lc'⟩ F F' w0 (C.keep (S:=fun _=>False) (zkb I) (fun _ _ f=>f)) (D.keep (S:=fun _=>False) (zkb I) (fun _ _ f=>f)) _ rfl);have E:=zhd I;unfold yiY at hr;dsimp only at hr;clear I M L C D;by_cases h0:id=id'
 .subst h0
  rw[show(id==id)=true from beq_self_eq_true _,Bool.true_and]at hr;by_cases h1:t=t'
  .subst h1
   rw[show(t==t)=true from beq_self_eq_true _,Bool.true_and]at hr;by_cases h2:k=k'
   .subst h2
    rw[show(k==k)=true from beq_self_eq_true _,Bool.true_and]at hr;by_cases h3:a=a'
    .subst h3
     rw[show(a==a)=true from beq_self_eq_true _,Bool.true_and]at hr;by_cases h4:b=b'
     .subst h4
      rw[show(b==b)=true from beq_self_eq_true _,Bool.true_and]at hr;by_cases h5:nm=nm'
      .subst h5
       rw[show decide (nm=nm)=true from zno rfl,Bool.true_and]at hr;by_cases h6:tx=tx'
       .subst h6
        rw[show decide (tx=tx)=true from zno rfl,Bool.true_and]at hr;have B:=zhd hr;clear hr;go_in;go_wp2_with fail;rw[<-A];clear A;go_wp2_with fail;refine G.o.mono ?_;rintro e w1 ⟨rfl,H⟩;have z:=zhd (E.o.trans (H.mono E.o.size));clear H c0 c1 c2 c3 v u s q p n K l j i h g d c Z Y X J m V;go_wp2;go_ret;exact⟨by rw[<-B.o];rfl,z.o⟩
       .have N:decide (tx=tx')=false:=znd h6
        have m6:(tx.toList==tx'.toList)=false:=by rw[zna,zml,zml];exact fun e=>h6 (yeB.1 e)
        rw[N,Bool.false_and]at hr;have B:=zhd hr;clear hr h6 G;go_in;go_wp2_with fail;rw[<-A];clear A;go_wp2;go_ret;exact⟨by rw[<-B.o];rfl,E.o⟩
      .have O:decide (nm=nm')=false:=znd h5
       have m5:(nm.toList==nm'.toList)=false:=by rw[zna,zml,zml];exact fun e=>h5 (yeB.1 e)
       rw[O,Bool.false_and]at hr;have B:=zhd hr;clear hr h5 G;go_in;go_wp2_with fail;rw[<-A];clear A;go_wp2;go_ret;exact⟨by rw[<-B.o];rfl,E.o⟩
     .have P:(b==b')=false:=by rw[zna];exact h4
      rw[P,Bool.false_and]at hr;have B:=zhd hr;clear hr h4 G;go_in;go_wp2_with fail;rw[<-A];clear A;go_wp2;go_ret;exact⟨by rw[<-B.o];rfl,E.o⟩
    .have Q:(a==a')=false:=by rw[zna];exact h3
     rw[Q,Bool.false_and]at hr;have B:=zhd hr;clear hr h3 G;go_in;go_wp2_with fail;rw[<-A];clear A;go_wp2;go_ret;exact⟨by rw[<-B.o];rfl,E.o⟩
   .have R:(k==k')=false:=by rw[zna];exact h2
    rw[R,Bool.false_and]at hr;have B:=zhd hr;clear hr h2 G;go_in;go_wp2_with fail;rw[<-A];clear A;go_wp2;go_ret;exact⟨by rw[<-B.o];rfl,E.o⟩
  .have T:(t==t')=false:=by rw[zna];exact h1
   rw[T,Bool.false_and]at hr;have B:=zhd hr;clear hr h1 G;go_in;go_wp2_with fail;rw[<-A];clear A;go_wp2;go_ret;exact⟨by rw[<-B.o];rfl,E.o⟩
 .have U:(id==id')=false:=by rw[zna];exact h0
  rw[U,Bool.false_and]at hr;have B:=zhd hr;clear hr h0 G;go_in;go_wp2_with fail;rw[<-A];clear A;go_wp2;go_ret;exact⟨by rw[<-B.o];rfl,E.o⟩
theorem ybv {P:Program}{f:Func}{Q:Ending->World->Prop}{e:Exit}{a:Act}{W:World}(h:∀w,w=W->bodyPost P f Q e a w):bodyPost P f Q e a W:=h W rfl
theorem ycl {W:World}{X Y Z:Obj}:(((W.alloc X).alloc Y).alloc Z).heap[W.heap.size]? =some X/\(((W.alloc X).alloc Y).alloc Z).heap[W.heap.size+1]? =some Y/\(((W.alloc X).alloc Y).alloc Z).heap[W.heap.size+1+1]? =some Z:=by
 refine⟨(zne _ _ _ (by simp;omega)).trans yaD,(zne _ _ _ (by simp)).trans yat,?_⟩;have:=znb ((W.alloc X).alloc Y) Z;simpa using this
def yeK (W:World)(c:Cm)(e:Ending)(w':World):Prop:=∃(vk vn:Int) (vs:ByteArray) (la:Option Addr) (ln lc:Nat),e= .returned (.agg #[(evOfC c).id,(evOfC c).time,(evOfC c).kind,(evOfC c).a,(evOfC c).b,(evOfC c).name,(evOfC c).text,vk,vn,vs,.slice la ln lc])/\Hid (CF (fun g=>W<=g) w' ⟨vk,vn,vs,la,ln,lc⟩ (evOfC c).v/\Below W W w')
theorem ynP
  (t a b:Int)(nm:ByteArray)(vk vn:Int)(vs:ByteArray)(la:Option Addr)(ln lc:Nat)(x:Val)(F:Nat->Prop)(W:World)(C:CF F W ⟨vk,vn,vs,la,ln,lc⟩ x)
  :
  Calls Tryz.prog 20 #[.agg #[.int .i64 2,t,a,b,nm,vk,vn,vs,.slice la ln lc]] W (yeK W ⟨2,t,a,b,nm,x⟩)
  :=by
 have HE:=zhd (show evOfC ⟨2,t,a,b,nm,x⟩=⟨0,t,13,a,0,⟨#[]⟩,⟨#[]⟩,yag⟩ by unfold evOfC;rfl);obtain⟨wc,A⟩:∃wc,wc=((W.alloc (.cells #[.int .i64 2,t,a,b,nm,vk,vn,vs,.slice la ln lc] 52)).alloc (.cells #[.int .i64 0,.int .i64 0,.int .i64 0,.int .i64 0,.int .i64 0,.string ⟨#[]⟩,.string ⟨#[]⟩,.int .i64 0,.int .i64 0,.string ⟨#[]⟩,.slice none 0 0] 40)).alloc (.cells #[.int .i64 0,t,.int .i64 0,.int .i64 0,.int .i64 0,.string ⟨#[]⟩,.string ⟨#[]⟩,.int .i64 0,.int .i64 0,.string ⟨#[]⟩,.slice none 0 0] 40):=⟨_,rfl⟩;have Z:wc.heap[W.heap.size]? =some (.cells #[.int .i64 2,t,a,b,nm,vk,vn,vs,.slice la ln lc] 52 (0,0)):=by rw[A];exact ycl.1
 have X:wc.heap[W.heap.size+1]? =some (.cells #[.int .i64 0,.int .i64 0,.int .i64 0,.int .i64 0,.int .i64 0,.string ⟨#[]⟩,.string ⟨#[]⟩,.int .i64 0,.int .i64 0,.string ⟨#[]⟩,.slice none 0 0] 40 (0,0)):=by rw[A];exact ycl.2.1
 have Y:wc.heap[W.heap.size+1+1]? =some (.cells #[.int .i64 0,t,.int .i64 0,.int .i64 0,.int .i64 0,.string ⟨#[]⟩,.string ⟨#[]⟩,.int .i64 0,.int .i64 0,.string ⟨#[]⟩,.slice none 0 0] 40 (0,0)):=by rw[A];exact ycl.2.2
 have H:wc.heap.size=W.heap.size+3:=by rw[A];simp
 have B0:Below W W wc:=by rw[A];exact((zal).alloc (by simp) _).alloc (by simp;omega) _
 have HB:=zh2 B0 H;obtain⟨c0,c1,c2,c3,c4,c5,c6,c7,c8,cl,_⟩:=yjH Z;obtain⟨U,T,S,R,Q,P,O,N,M,L,z10,J,K⟩:=yaW X;obtain⟨r,q,p,n,m,l,k,i,g,f,G,c,d⟩:=yaW Y;have HH:=zh3 Z X Y;clear Z X Y H B0;clear C;go_in;go_upto_region 3 with(fail);rw[<-A];clear A;go_wp2_with fail;go_region
 all_goals
  go_upto_region 15 with(fail);refine yab ?_;intro w2 B;have I:w2.heap[W.heap.size+1+1]? =some (.cells #[.int .i64 0,t,.int .i64 13,a,.int .i64 0,.string ⟨#[]⟩,.string ⟨#[]⟩,.int .i64 0,.int .i64 0,.string ⟨#[]⟩,.slice none 0 0] 40 (0,0)):=by
   rw[B];have:=HH.o.2.2;simp[World.setCell,World.drew,zni,this]
  have E:w2.heap[W.heap.size+1]? =some (.cells #[.int .i64 0,.int .i64 0,.int .i64 0,.int .i64 0,.int .i64 0,.string ⟨#[]⟩,.string ⟨#[]⟩,.int .i64 0,.int .i64 0,.string ⟨#[]⟩,.slice none 0 0] 40 (0,0)):=by
   rw[B];have:=HH.o.2.1;simp[World.setCell,World.drew,zni,this]
  have z:Keeps (fun j=>j=W+1+1) wc w2:=by
   rw[B]
   repeat(first|with_reducible exact Keeps.refl _ _|with_reducible refine Keeps.drew ?_|(refine Keeps.setCell ?_ (Or.inl ?h) _;case h=>rfl))
  clear U T S R Q P O N M L z10 J K r q p n m l k i g f G c d B;obtain⟨U,T,S,R,Q,P,O,N,M,L,z10,J,K⟩:=yaW E;obtain⟨r,q,p,n,m,l,k,i,g,f,G,c,d⟩:=yaW I;have HK:=zhd z;have s:=zhd E;clear I E z;go_wp2_with fail;refine ybv ?_;intro w3 D;have V:w3.heap[W.heap.size+1]? =some (.cells #[.int .i64 0,t,.int .i64 13,a,.int .i64 0,.string ⟨#[]⟩,.string ⟨#[]⟩,.int .i64 0,.int .i64 0,.string ⟨#[]⟩,.slice none 0 0] 40 (0,0)):=by
   rw[D];have:=s.o;simp[World.setCell,zni,this]
  have K3:Keeps (fun j=>j=W+1) w2 w3:=by
   rw[D]
   repeat(first|with_reducible exact Keeps.refl _ _|(refine Keeps.setCell ?_ (Or.inl ?h) _;case h=>rfl))
  clear D U T S R Q P O N M L z10 J K r q p n m l k i g f G c d;obtain⟨U,T,S,R,Q,P,O,N,M,L,z10,J,K⟩:=yaW V;refine zng (v:=.agg #[.int .i64 0,t,.int .i64 13,a,.int .i64 0,.string ⟨#[]⟩,.string ⟨#[]⟩,.int .i64 0,.int .i64 0,.string ⟨#[]⟩,.slice none 0 0]) (by simp only[results,Tryz.results20];go_simp) rfl ?_;have y:=HB.o.1;have h2:=HB.o.2;have u:=y.trans (HK.o.below y.size (fun j hj e=>by omega));exact⟨_,_,_,_,_,_,by rw[HE.o],zhd ⟨by rw[HE.o];exact yaI _ _,u.trans (K3.below u.size (fun j hj e=>by omega))⟩⟩
theorem ynM
  (t a b:Int)(nm:ByteArray)(vk vn:Int)(vs:ByteArray)(la:Option Addr)(ln lc:Nat)(x:Val)(F:Nat->Prop)(W:World)(C:CF F W ⟨vk,vn,vs,la,ln,lc⟩ x)
  :
  Calls Tryz.prog 20 #[.agg #[.int .i64 5,t,a,b,nm,vk,vn,vs,.slice la ln lc]] W (yeK W ⟨5,t,a,b,nm,x⟩)
  :=by
 have HE:=zhd (show evOfC ⟨5,t,a,b,nm,x⟩=⟨0,t,17,0,0,nm,⟨#[]⟩,yag⟩ by unfold evOfC;rfl);obtain⟨wc,A⟩:∃wc,wc=((W.alloc (.cells #[.int .i64 5,t,a,b,nm,vk,vn,vs,.slice la ln lc] 52)).alloc (.cells #[.int .i64 0,.int .i64 0,.int .i64 0,.int .i64 0,.int .i64 0,.string ⟨#[]⟩,.string ⟨#[]⟩,.int .i64 0,.int .i64 0,.string ⟨#[]⟩,.slice none 0 0] 40)).alloc (.cells #[.int .i64 0,t,.int .i64 0,.int .i64 0,.int .i64 0,.string ⟨#[]⟩,.string ⟨#[]⟩,.int .i64 0,.int .i64 0,.string ⟨#[]⟩,.slice none 0 0] 40):=⟨_,rfl⟩;have Z:wc.heap[W.heap.size]? =some (.cells #[.int .i64 5,t,a,b,nm,vk,vn,vs,.slice la ln lc] 52 (0,0)):=by rw[A];exact ycl.1
 have X:wc.heap[W.heap.size+1]? =some (.cells #[.int .i64 0,.int .i64 0,.int .i64 0,.int .i64 0,.int .i64 0,.string ⟨#[]⟩,.string ⟨#[]⟩,.int .i64 0,.int .i64 0,.string ⟨#[]⟩,.slice none 0 0] 40 (0,0)):=by rw[A];exact ycl.2.1
 have Y:wc.heap[W.heap.size+1+1]? =some (.cells #[.int .i64 0,t,.int .i64 0,.int .i64 0,.int .i64 0,.string ⟨#[]⟩,.string ⟨#[]⟩,.int .i64 0,.int .i64 0,.string ⟨#[]⟩,.slice none 0 0] 40 (0,0)):=by rw[A];exact ycl.2.2
 have H:wc.heap.size=W.heap.size+3:=by rw[A];simp
 have B0:Below W W wc:=by rw[A];exact((zal).alloc (by simp) _).alloc (by simp;omega) _
 have HB:=zh2 B0 H;obtain⟨c0,c1,c2,c3,c4,c5,c6,c7,c8,cl,_⟩:=yjH Z;obtain⟨U,T,S,R,Q,P,O,N,M,L,z10,J,K⟩:=yaW X;obtain⟨r,q,p,n,m,l,k,i,g,f,G,c,d⟩:=yaW Y;have HH:=zh3 Z X Y;clear Z X Y H B0;clear C;go_in;go_upto_region 3 with(fail);rw[<-A];clear A;go_wp2_with fail;go_region
 all_goals
  go_upto_region 15 with(fail);refine yab ?_;intro w2 B;have I:w2.heap[W.heap.size+1+1]? =some (.cells #[.int .i64 0,t,.int .i64 17,.int .i64 0,.int .i64 0,nm,.string ⟨#[]⟩,.int .i64 0,.int .i64 0,.string ⟨#[]⟩,.slice none 0 0] 40 (0,0)):=by
   rw[B];have:=HH.o.2.2;simp[World.setCell,World.drew,zni,this]
  have E:w2.heap[W.heap.size+1]? =some (.cells #[.int .i64 0,.int .i64 0,.int .i64 0,.int .i64 0,.int .i64 0,.string ⟨#[]⟩,.string ⟨#[]⟩,.int .i64 0,.int .i64 0,.string ⟨#[]⟩,.slice none 0 0] 40 (0,0)):=by
   rw[B];have:=HH.o.2.1;simp[World.setCell,World.drew,zni,this]
  have z:Keeps (fun j=>j=W+1+1) wc w2:=by
   rw[B]
   repeat(first|with_reducible exact Keeps.refl _ _|with_reducible refine Keeps.drew ?_|(refine Keeps.setCell ?_ (Or.inl ?h) _;case h=>rfl))
  clear U T S R Q P O N M L z10 J K r q p n m l k i g f G c d B;obtain⟨U,T,S,R,Q,P,O,N,M,L,z10,J,K⟩:=yaW E;obtain⟨r,q,p,n,m,l,k,i,g,f,G,c,d⟩:=yaW I;have HK:=zhd z;have s:=zhd E;clear I E z;go_wp2_with fail;refine ybv ?_;intro w3 D;have V:w3.heap[W.heap.size+1]? =some (.cells #[.int .i64 0,t,.int .i64 17,.int .i64 0,.int .i64 0,nm,.string ⟨#[]⟩,.int .i64 0,.int .i64 0,.string ⟨#[]⟩,.slice none 0 0] 40 (0,0)):=by
   rw[D];have:=s.o;simp[World.setCell,zni,this]
  have K3:Keeps (fun j=>j=W+1) w2 w3:=by
   rw[D]
   repeat(first|with_reducible exact Keeps.refl _ _|(refine Keeps.setCell ?_ (Or.inl ?h) _;case h=>rfl))
  clear D U T S R Q P O N M L z10 J K r q p n m l k i g f G c d;obtain⟨U,T,S,R,Q,P,O,N,M,L,z10,J,K⟩:=yaW V;refine zng (v:=.agg #[.int .i64 0,t,.int .i64 17,.int .i64 0,.int .i64 0,nm,.string ⟨#[]⟩,.int .i64 0,.int .i64 0,.string ⟨#[]⟩,.slice none 0 0]) (by simp only[results,Tryz.results20];go_simp) rfl ?_;have y:=HB.o.1;have h2:=HB.o.2;have u:=y.trans (HK.o.below y.size (fun j hj e=>by omega));exact⟨_,_,_,_,_,_,by rw[HE.o],zhd ⟨by rw[HE.o];exact yaI _ _,u.trans (K3.below u.size (fun j hj e=>by omega))⟩⟩
theorem ynQ
  (t a b:Int)(nm:ByteArray)(vk vn:Int)(vs:ByteArray)(la:Option Addr)(ln lc:Nat)(x:Val)(F:Nat->Prop)(W:World)(C:CF F W ⟨vk,vn,vs,la,ln,lc⟩ x)
  (ht:0<=t)(hb:0<=b)(ht2:t<=4611686018427387903):
  Calls Tryz.prog 20 #[.agg #[.int .i64 1,t,a,b,nm,vk,vn,vs,.slice la ln lc]] W (yeK W ⟨1,t,a,b,nm,x⟩)
  :=by
 have HE:=zhd (show evOfC ⟨1,t,a,b,nm,x⟩=⟨0,t,11,a,yg9 t b,⟨#[]⟩,⟨#[]⟩,yag⟩ by unfold evOfC;rfl);have SA:=zhd (fun W=>ymW t b W ht hb ht2);obtain⟨wc,A⟩:∃wc,wc=((W.alloc (.cells #[.int .i64 1,t,a,b,nm,vk,vn,vs,.slice la ln lc] 52)).alloc (.cells #[.int .i64 0,.int .i64 0,.int .i64 0,.int .i64 0,.int .i64 0,.string ⟨#[]⟩,.string ⟨#[]⟩,.int .i64 0,.int .i64 0,.string ⟨#[]⟩,.slice none 0 0] 40)).alloc (.cells #[.int .i64 0,t,.int .i64 0,.int .i64 0,.int .i64 0,.string ⟨#[]⟩,.string ⟨#[]⟩,.int .i64 0,.int .i64 0,.string ⟨#[]⟩,.slice none 0 0] 40):=⟨_,rfl⟩;have Z:wc.heap[W.heap.size]? =some (.cells #[.int .i64 1,t,a,b,nm,vk,vn,vs,.slice la ln lc] 52 (0,0)):=by rw[A];exact ycl.1
 have X:wc.heap[W.heap.size+1]? =some (.cells #[.int .i64 0,.int .i64 0,.int .i64 0,.int .i64 0,.int .i64 0,.string ⟨#[]⟩,.string ⟨#[]⟩,.int .i64 0,.int .i64 0,.string ⟨#[]⟩,.slice none 0 0] 40 (0,0)):=by rw[A];exact ycl.2.1
 have Y:wc.heap[W.heap.size+1+1]? =some (.cells #[.int .i64 0,t,.int .i64 0,.int .i64 0,.int .i64 0,.string ⟨#[]⟩,.string ⟨#[]⟩,.int .i64 0,.int .i64 0,.string ⟨#[]⟩,.slice none 0 0] 40 (0,0)):=by rw[A];exact ycl.2.2
 have H:wc.heap.size=W.heap.size+3:=by rw[A];simp
 have B0:Below W W wc:=by rw[A];exact((zal).alloc (by simp) _).alloc (by simp;omega) _
 have HB:=zh2 B0 H;obtain⟨c0,c1,c2,c3,c4,c5,c6,c7,c8,cl,_⟩:=yjH Z;obtain⟨U,T,S,R,Q,P,O,N,M,L,z10,J,K⟩:=yaW X;obtain⟨r,q,p,n,m,l,k,i,g,f,G,c,d⟩:=yaW Y;have HH:=zh3 Z X Y;clear Z X Y H B0;clear C ht hb ht2;go_in;go_upto_region 3 with(fail);rw[<-A];clear A;go_upto_region 4 with(fail);go_region_law ((go_simp;go_at_call 57;refine(SA.o _).mono ?_;rintro e w1 ⟨rfl,hw⟩;subst hw))
 all_goals
  go_upto_region 15 with(fail);refine yab ?_;intro w2 B;have I:w2.heap[W.heap.size+1+1]? =some (.cells #[.int .i64 0,t,.int .i64 11,a,.int .i64 (yg9 t b),.string ⟨#[]⟩,.string ⟨#[]⟩,.int .i64 0,.int .i64 0,.string ⟨#[]⟩,.slice none 0 0] 40 (0,0)):=by
   rw[B];have:=HH.o.2.2;simp[World.setCell,World.drew,zni,this]
  have E:w2.heap[W.heap.size+1]? =some (.cells #[.int .i64 0,.int .i64 0,.int .i64 0,.int .i64 0,.int .i64 0,.string ⟨#[]⟩,.string ⟨#[]⟩,.int .i64 0,.int .i64 0,.string ⟨#[]⟩,.slice none 0 0] 40 (0,0)):=by
   rw[B];have:=HH.o.2.1;simp[World.setCell,World.drew,zni,this]
  have z:Keeps (fun j=>j=W+1+1) wc w2:=by
   rw[B]
   repeat(first|with_reducible exact Keeps.refl _ _|with_reducible refine Keeps.drew ?_|(refine Keeps.setCell ?_ (Or.inl ?h) _;case h=>rfl))
  clear U T S R Q P O N M L z10 J K r q p n m l k i g f G c d B;obtain⟨U,T,S,R,Q,P,O,N,M,L,z10,J,K⟩:=yaW E;obtain⟨r,q,p,n,m,l,k,i,g,f,G,c,d⟩:=yaW I;have HK:=zhd z;have s:=zhd E;clear I E z;go_wp2_with fail;refine ybv ?_;intro w3 D;have V:w3.heap[W.heap.size+1]? =some (.cells #[.int .i64 0,t,.int .i64 11,a,.int .i64 (yg9 t b),.string ⟨#[]⟩,.string ⟨#[]⟩,.int .i64 0,.int .i64 0,.string ⟨#[]⟩,.slice none 0 0] 40 (0,0)):=by
   rw[D];have:=s.o;simp[World.setCell,zni,this]
  have K3:Keeps (fun j=>j=W+1) w2 w3:=by
   rw[D]
   repeat(first|with_reducible exact Keeps.refl _ _|(refine Keeps.setCell ?_ (Or.inl ?h) _;case h=>rfl))
  clear D U T S R Q P O N M L z10 J K r q p n m l k i g f G c d;obtain⟨U,T,S,R,Q,P,O,N,M,L,z10,J,K⟩:=yaW V;refine zng (v:=.agg #[.int .i64 0,t,.int .i64 11,a,.int .i64 (yg9 t b),.string ⟨#[]⟩,.string ⟨#[]⟩,.int .i64 0,.int .i64 0,.string ⟨#[]⟩,.slice none 0 0]) (by simp only[results,Tryz.results20];go_simp) rfl ?_;have y:=HB.o.1;have h2:=HB.o.2;have u:=y.trans (HK.o.below y.size (fun j hj e=>by omega));exact⟨_,_,_,_,_,_,by rw[HE.o],zhd ⟨by rw[HE.o];exact yaI _ _,u.trans (K3.below u.size (fun j hj e=>by omega))⟩⟩
theorem ynN
  (t a b:Int)(nm:ByteArray)(vk vn:Int)(vs:ByteArray)(la:Option Addr)(ln lc:Nat)(x:Val)(F:Nat->Prop)(W:World)(C:CF F W ⟨vk,vn,vs,la,ln,lc⟩ x)
  (hz:szV x<=1073741824):
  Calls Tryz.prog 20 #[.agg #[.int .i64 4,t,a,b,nm,vk,vn,vs,.slice la ln lc]] W (yeK W ⟨4,t,a,b,nm,x⟩)
  :=by
 have HE:=zhd (show evOfC ⟨4,t,a,b,nm,x⟩=⟨0,t,16,0,0,⟨#[]⟩,⟨#[]⟩,yaa x⟩ by unfold evOfC;rfl);obtain⟨wc,A⟩:∃wc,wc=((W.alloc (.cells #[.int .i64 4,t,a,b,nm,vk,vn,vs,.slice la ln lc] 52)).alloc (.cells #[.int .i64 0,.int .i64 0,.int .i64 0,.int .i64 0,.int .i64 0,.string ⟨#[]⟩,.string ⟨#[]⟩,.int .i64 0,.int .i64 0,.string ⟨#[]⟩,.slice none 0 0] 40)).alloc (.cells #[.int .i64 0,t,.int .i64 0,.int .i64 0,.int .i64 0,.string ⟨#[]⟩,.string ⟨#[]⟩,.int .i64 0,.int .i64 0,.string ⟨#[]⟩,.slice none 0 0] 40):=⟨_,rfl⟩;have hA:wc.heap[W.heap.size]? =some (.cells #[.int .i64 4,t,a,b,nm,vk,vn,vs,.slice la ln lc] 52 (0,0)):=by rw[A];exact ycl.1
 have hZ:wc.heap[W.heap.size+1]? =some (.cells #[.int .i64 0,.int .i64 0,.int .i64 0,.int .i64 0,.int .i64 0,.string ⟨#[]⟩,.string ⟨#[]⟩,.int .i64 0,.int .i64 0,.string ⟨#[]⟩,.slice none 0 0] 40 (0,0)):=by rw[A];exact ycl.2.1
 have hE:wc.heap[W.heap.size+1+1]? =some (.cells #[.int .i64 0,t,.int .i64 0,.int .i64 0,.int .i64 0,.string ⟨#[]⟩,.string ⟨#[]⟩,.int .i64 0,.int .i64 0,.string ⟨#[]⟩,.slice none 0 0] 40 (0,0)):=by rw[A];exact ycl.2.2
 have i:wc.heap.size=W.heap.size+3:=by rw[A];simp
 have B0:Below W W wc:=by rw[A];exact((zal).alloc (by simp) _).alloc (by simp;omega) _
 have HB:=zh2 B0 i;obtain⟨c0,c1,c2,c3,c4,c5,c6,c7,c8,cl,_⟩:=yjH hA;obtain⟨d,c,Z,Y,X,V,U,T,R,Q,z10,O,P⟩:=yaW hZ;obtain⟨e0,e1,z,y,u,s,r,q,p,n,D,l,m⟩:=yaW hE;have HH:=zh3 hA hZ hE;clear hA hZ hE i B0;have CL:=zhd (yay x vk vn vs la ln lc _ wc (C.keep (S:=fun _=>False) (zkb HB.o.1) (fun _ _ f=>f)) hz);clear C hz;go_in;go_upto_region 3 with(fail);rw[<-A];clear A;go_wp2_with fail;refine CL.o.mono ?_;rintro e w1 ⟨⟨k8,n8,s8,J,H,I⟩,rfl,H1⟩;have M:=(H1.o.2.block (W.heap.size+1) (by rw[HB.o.2];omega)).trans HH.o.2.1;have N:=(H1.o.2.block (W.heap.size+1+1) (by rw[HB.o.2];omega)).trans HH.o.2.2;clear c0 c1 c2 c3 c4 c5 c6 c7 c8 cl d c Z Y X V U T R Q z10 O P e0 e1 z y u s r q p n D l m;obtain⟨d,c,Z,Y,X,V,U,T,R,Q,z10,O,P⟩:=yaW M;obtain⟨e0,e1,z,y,u,s,r,q,p,n,D,l,m⟩:=yaW N;have Ad:=zhd M;have Ae:=zhd N;clear M N;go_upto_region 15 with(fail);refine yab ?_;intro w2 E
 have k:w2.heap[W.heap.size+1+1]? =some (.cells #[.int .i64 0,t,.int .i64 16,.int .i64 0,.int .i64 0,.string ⟨#[]⟩,.string ⟨#[]⟩,k8,n8,s8,.slice J H I] 40 (0,0)):=by
  rw[E];have:=Ae.o;simp[World.setCell,World.drew,zni,this]
 have L:w2.heap[W.heap.size+1]? =some (.cells #[.int .i64 0,.int .i64 0,.int .i64 0,.int .i64 0,.int .i64 0,.string ⟨#[]⟩,.string ⟨#[]⟩,.int .i64 0,.int .i64 0,.string ⟨#[]⟩,.slice none 0 0] 40 (0,0)):=by
  rw[E];have:=Ad.o;simp[World.setCell,World.drew,zni,this]
 have K2:Keeps (fun j=>j=W+1+1) w1 w2:=by
  rw[E]
  repeat(first|with_reducible exact Keeps.refl _ _|with_reducible refine Keeps.drew ?_|(refine Keeps.setCell ?_ (Or.inl ?h) _;case h=>rfl))
 clear d c Z Y X V U T R Q z10 O P e0 e1 z y u s r q p n D l m E;obtain⟨d,c,Z,Y,X,V,U,T,R,Q,z10,O,P⟩:=yaW L;obtain⟨e0,e1,z,y,u,s,r,q,p,n,D,l,m⟩:=yaW k;have HK:=zhd K2;have Ac:=zhd L;clear k L K2;go_wp2_with fail;refine ybv ?_;intro w3 K;have Aa:w3.heap[W.heap.size+1]? =some (.cells #[.int .i64 0,t,.int .i64 16,.int .i64 0,.int .i64 0,.string ⟨#[]⟩,.string ⟨#[]⟩,k8,n8,s8,.slice J H I] 40 (0,0)):=by
  rw[K];have:=Ac.o;simp[World.setCell,zni,this]
 have K3:Keeps (fun j=>j=W+1) w2 w3:=by
  rw[K]
  repeat(first|with_reducible exact Keeps.refl _ _|(refine Keeps.setCell ?_ (Or.inl ?h) _;case h=>rfl))
 clear K d c Z Y X V U T R Q z10 O P e0 e1 z y u s r q p n D l m;obtain⟨d,c,Z,Y,X,V,U,T,R,Q,z10,O,P⟩:=yaW Aa;refine zng (v:=.agg #[.int .i64 0,t,.int .i64 16,.int .i64 0,.int .i64 0,.string ⟨#[]⟩,.string ⟨#[]⟩,k8,n8,s8,.slice J H I]) (by simp only[results,Tryz.results20];go_simp) rfl ?_;have h1:=HB.o.1;have hq:=HB.o.2;have h2:=h1.trans (((znv wc.heap.size wc).trans H1.o.2).mono h1.size);have h3:=h2.trans (HK.o.below h2.size (fun j hj e=>by omega));have hC:=H1.o.1.mono (G:=fun g=>W.heap.size+3<=g) (fun g B _=>by have B:wc<=g:=B;have e:wc.heap.size=wc.heap.size:=rfl;omega);have Ab:=(hC.keep HK.o (fun g B e=>by have B:W.heap.size+3<=g:=B;omega)).keep K3 (fun g B e=>by have B:W.heap.size+3<=g:=B;omega);exact⟨_,_,_,_,_,_,by rw[HE.o],zhd ⟨by rw[HE.o];exact Ab.mono (fun g B _=>by have B:W.heap.size+3<=g:=B;show W<=g;omega),h3.trans (K3.below h3.size (fun j hj e=>by omega))⟩⟩
theorem ynL
  (t a b:Int)(nm:ByteArray)(vk vn:Int)(vs:ByteArray)(la:Option Addr)(ln lc:Nat)(x:Val)(F:Nat->Prop)(W:World)(C:CF F W ⟨vk,vn,vs,la,ln,lc⟩ x)
  (hz:szV x<=1073741824):
  Calls Tryz.prog 20 #[.agg #[.int .i64 6,t,a,b,nm,vk,vn,vs,.slice la ln lc]] W (yeK W ⟨6,t,a,b,nm,x⟩)
  :=by
 have HE:=zhd (show evOfC ⟨6,t,a,b,nm,x⟩=⟨0,t,21,0,0,⟨#[]⟩,⟨#[]⟩,yaa x⟩ by unfold evOfC;rfl);obtain⟨wc,A⟩:∃wc,wc=((W.alloc (.cells #[.int .i64 6,t,a,b,nm,vk,vn,vs,.slice la ln lc] 52)).alloc (.cells #[.int .i64 0,.int .i64 0,.int .i64 0,.int .i64 0,.int .i64 0,.string ⟨#[]⟩,.string ⟨#[]⟩,.int .i64 0,.int .i64 0,.string ⟨#[]⟩,.slice none 0 0] 40)).alloc (.cells #[.int .i64 0,t,.int .i64 0,.int .i64 0,.int .i64 0,.string ⟨#[]⟩,.string ⟨#[]⟩,.int .i64 0,.int .i64 0,.string ⟨#[]⟩,.slice none 0 0] 40):=⟨_,rfl⟩;have hA:wc.heap[W.heap.size]? =some (.cells #[.int .i64 6,t,a,b,nm,vk,vn,vs,.slice la ln lc] 52 (0,0)):=by rw[A];exact ycl.1
 have hZ:wc.heap[W.heap.size+1]? =some (.cells #[.int .i64 0,.int .i64 0,.int .i64 0,.int .i64 0,.int .i64 0,.string ⟨#[]⟩,.string ⟨#[]⟩,.int .i64 0,.int .i64 0,.string ⟨#[]⟩,.slice none 0 0] 40 (0,0)):=by rw[A];exact ycl.2.1
 have hE:wc.heap[W.heap.size+1+1]? =some (.cells #[.int .i64 0,t,.int .i64 0,.int .i64 0,.int .i64 0,.string ⟨#[]⟩,.string ⟨#[]⟩,.int .i64 0,.int .i64 0,.string ⟨#[]⟩,.slice none 0 0] 40 (0,0)):=by rw[A];exact ycl.2.2
 have i:wc.heap.size=W.heap.size+3:=by rw[A];simp
 have B0:Below W W wc:=by rw[A];exact((zal).alloc (by simp) _).alloc (by simp;omega) _
 have HB:=zh2 B0 i;obtain⟨c0,c1,c2,c3,c4,c5,c6,c7,c8,cl,_⟩:=yjH hA;obtain⟨d,c,Z,Y,X,V,U,T,R,Q,z10,O,P⟩:=yaW hZ;obtain⟨e0,e1,z,y,u,s,r,q,p,n,D,l,m⟩:=yaW hE;have HH:=zh3 hA hZ hE;clear hA hZ hE i B0;have CL:=zhd (yay x vk vn vs la ln lc _ wc (C.keep (S:=fun _=>False) (zkb HB.o.1) (fun _ _ f=>f)) hz);clear C hz;go_in;go_upto_region 3 with(fail);rw[<-A];clear A;go_wp2_with fail;refine CL.o.mono ?_;rintro e w1 ⟨⟨k8,n8,s8,J,H,I⟩,rfl,H1⟩;have M:=(H1.o.2.block (W.heap.size+1) (by rw[HB.o.2];omega)).trans HH.o.2.1;have N:=(H1.o.2.block (W.heap.size+1+1) (by rw[HB.o.2];omega)).trans HH.o.2.2;clear c0 c1 c2 c3 c4 c5 c6 c7 c8 cl d c Z Y X V U T R Q z10 O P e0 e1 z y u s r q p n D l m;obtain⟨d,c,Z,Y,X,V,U,T,R,Q,z10,O,P⟩:=yaW M;obtain⟨e0,e1,z,y,u,s,r,q,p,n,D,l,m⟩:=yaW N;have Ad:=zhd M;have Ae:=zhd N;clear M N;go_upto_region 15 with(fail);refine yab ?_;intro w2 E
 have k:w2.heap[W.heap.size+1+1]? =some (.cells #[.int .i64 0,t,.int .i64 21,.int .i64 0,.int .i64 0,.string ⟨#[]⟩,.string ⟨#[]⟩,k8,n8,s8,.slice J H I] 40 (0,0)):=by
  rw[E];have:=Ae.o;simp[World.setCell,World.drew,zni,this]
 have L:w2.heap[W.heap.size+1]? =some (.cells #[.int .i64 0,.int .i64 0,.int .i64 0,.int .i64 0,.int .i64 0,.string ⟨#[]⟩,.string ⟨#[]⟩,.int .i64 0,.int .i64 0,.string ⟨#[]⟩,.slice none 0 0] 40 (0,0)):=by
  rw[E];have:=Ad.o;simp[World.setCell,World.drew,zni,this]
 have K2:Keeps (fun j=>j=W+1+1) w1 w2:=by
  rw[E]
  repeat(first|with_reducible exact Keeps.refl _ _|with_reducible refine Keeps.drew ?_|(refine Keeps.setCell ?_ (Or.inl ?h) _;case h=>rfl))
 clear d c Z Y X V U T R Q z10 O P e0 e1 z y u s r q p n D l m E;obtain⟨d,c,Z,Y,X,V,U,T,R,Q,z10,O,P⟩:=yaW L;obtain⟨e0,e1,z,y,u,s,r,q,p,n,D,l,m⟩:=yaW k;have HK:=zhd K2;have Ac:=zhd L;clear k L K2;go_wp2_with fail;refine ybv ?_;intro w3 K;have Aa:w3.heap[W.heap.size+1]? =some (.cells #[.int .i64 0,t,.int .i64 21,.int .i64 0,.int .i64 0,.string ⟨#[]⟩,.string ⟨#[]⟩,k8,n8,s8,.slice J H I] 40 (0,0)):=by
  rw[K];have:=Ac.o;simp[World.setCell,zni,this]
 have K3:Keeps (fun j=>j=W+1) w2 w3:=by
  rw[K]
  repeat(first|with_reducible exact Keeps.refl _ _|(refine Keeps.setCell ?_ (Or.inl ?h) _;case h=>rfl))
 clear K d c Z Y X V U T R Q z10 O P e0 e1 z y u s r q p n D l m;obtain⟨d,c,Z,Y,X,V,U,T,R,Q,z10,O,P⟩:=yaW Aa;refine zng (v:=.agg #[.int .i64 0,t,.int .i64 21,.int .i64 0,.int .i64 0,.string ⟨#[]⟩,.string ⟨#[]⟩,k8,n8,s8,.slice J H I]) (by simp only[results,Tryz.results20];go_simp) rfl ?_;have h1:=HB.o.1;have hq:=HB.o.2;have h2:=h1.trans (((znv wc.heap.size wc).trans H1.o.2).mono h1.size);have h3:=h2.trans (HK.o.below h2.size (fun j hj e=>by omega));have hC:=H1.o.1.mono (G:=fun g=>W.heap.size+3<=g) (fun g B _=>by have B:wc<=g:=B;have e:wc.heap.size=wc.heap.size:=rfl;omega);have Ab:=(hC.keep HK.o (fun g B e=>by have B:W.heap.size+3<=g:=B;omega)).keep K3 (fun g B e=>by have B:W.heap.size+3<=g:=B;omega);exact⟨_,_,_,_,_,_,by rw[HE.o],zhd ⟨by rw[HE.o];exact Ab.mono (fun g B _=>by have B:W.heap.size+3<=g:=B;show W<=g;omega),h3.trans (K3.below h3.size (fun j hj e=>by omega))⟩⟩
theorem ynO
  (t a b:Int)(nm:ByteArray)(vk vn:Int)(vs:ByteArray)(la:Option Addr)(ln lc:Nat)(x:Val)(F:Nat->Prop)(W:World)(C:CF F W ⟨vk,vn,vs,la,ln,lc⟩ x)
  (hz:szV x<=1073741824):
  Calls Tryz.prog 20 #[.agg #[.int .i64 3,t,a,b,nm,vk,vn,vs,.slice la ln lc]] W (yeK W ⟨3,t,a,b,nm,x⟩)
  :=by
 have HE:=zhd (show evOfC ⟨3,t,a,b,nm,x⟩=⟨0,t,7,a,b,nm,⟨#[]⟩,yaa x⟩ by unfold evOfC;rfl);obtain⟨wc,A⟩:∃wc,wc=((W.alloc (.cells #[.int .i64 3,t,a,b,nm,vk,vn,vs,.slice la ln lc] 52)).alloc (.cells #[.int .i64 0,.int .i64 0,.int .i64 0,.int .i64 0,.int .i64 0,.string ⟨#[]⟩,.string ⟨#[]⟩,.int .i64 0,.int .i64 0,.string ⟨#[]⟩,.slice none 0 0] 40)).alloc (.cells #[.int .i64 0,t,.int .i64 0,.int .i64 0,.int .i64 0,.string ⟨#[]⟩,.string ⟨#[]⟩,.int .i64 0,.int .i64 0,.string ⟨#[]⟩,.slice none 0 0] 40):=⟨_,rfl⟩;have hA:wc.heap[W.heap.size]? =some (.cells #[.int .i64 3,t,a,b,nm,vk,vn,vs,.slice la ln lc] 52 (0,0)):=by rw[A];exact ycl.1
 have hZ:wc.heap[W.heap.size+1]? =some (.cells #[.int .i64 0,.int .i64 0,.int .i64 0,.int .i64 0,.int .i64 0,.string ⟨#[]⟩,.string ⟨#[]⟩,.int .i64 0,.int .i64 0,.string ⟨#[]⟩,.slice none 0 0] 40 (0,0)):=by rw[A];exact ycl.2.1
 have hE:wc.heap[W.heap.size+1+1]? =some (.cells #[.int .i64 0,t,.int .i64 0,.int .i64 0,.int .i64 0,.string ⟨#[]⟩,.string ⟨#[]⟩,.int .i64 0,.int .i64 0,.string ⟨#[]⟩,.slice none 0 0] 40 (0,0)):=by rw[A];exact ycl.2.2
 have i:wc.heap.size=W.heap.size+3:=by rw[A];simp
 have B0:Below W W wc:=by rw[A];exact((zal).alloc (by simp) _).alloc (by simp;omega) _
 have HB:=zh2 B0 i;obtain⟨c0,c1,c2,c3,c4,c5,c6,c7,c8,cl,_⟩:=yjH hA;obtain⟨d,c,Z,Y,X,V,U,T,R,Q,z10,O,P⟩:=yaW hZ;obtain⟨e0,e1,e2,e3,z,y,u,s,r,q,E,m,p⟩:=yaW hE;have HH:=zh3 hA hZ hE;clear hA hZ hE i B0;have CL:=zhd (yay x vk vn vs la ln lc _ wc.drew ((C.keep (S:=fun _=>False) (zkb HB.o.1) (fun _ _ f=>f)).keep (S:=fun _=>False) (zkb (znv _ _).drew) (fun _ _ f=>f)) hz);clear C hz;go_in;go_upto_region 3 with(fail);rw[<-A];clear A;go_upto_region 8 with(fail);have s1:wc.drew.cell? ⟨W,2,none⟩=some (.int .i64 a):=c2;have s2:wc.drew.cell? ⟨W,3,none⟩=some (.int .i64 b):=c3;have s3:wc.drew.cell? ⟨W,4,none⟩=some (.string nm):=c4;have s4:wc.drew.cell? ⟨W,5,none⟩=some (.int .i64 vk):=c5;have s5:wc.drew.cell? ⟨W,6,none⟩=some (.int .i64 vn):=c6;have s6:wc.drew.cell? ⟨W,7,none⟩=some (.string vs):=c7;have s7:wc.drew.cell? ⟨W,8,none⟩=some (.slice la ln lc):=c8
 go_region_held3 (fun W1=>W1.cell? ⟨W,2,none⟩=some (.int .i64 a)/\W1.cell? ⟨W,3,none⟩=some (.int .i64 b)/\W1.cell? ⟨W,4,none⟩=some (.string nm)/\W1.cell? ⟨W,5,none⟩=some (.int .i64 vk)/\W1.cell? ⟨W,6,none⟩=some (.int .i64 vn)/\W1.cell? ⟨W,7,none⟩=some (.string vs)/\W1.cell? ⟨W,8,none⟩=some (.slice la ln lc)) (first|with_reducible exact⟨s1,s2,s3,s4,s5,s6,s7⟩|with_reducible exact⟨t1,t2,t3,t4,t5,t6,t7⟩|go_keep|go_simp) ((go_at_call 58;refine CL.o.mono ?_;rintro e w1 ⟨⟨k8,n8,s8,J,H,I⟩,rfl,n⟩;have l:=(n.o.2.block W cl).trans HH.o.1;have N:=(n.o.2.block (W.heap.size+1+1) m).trans HH.o.2.2;have M:=(n.o.2.block (W.heap.size+1) O).trans HH.o.2.1;obtain⟨_,_,t1,t2,t3,t4,t5,t6,t7,tl,_⟩:=yjH l;obtain⟨e0,e1,e2,e3,z,y,u,s,r,q,E,m,p⟩:=yaW N;obtain⟨d,c,Z,Y,X,V,U,T,R,Q,z10,O,P⟩:=yaW M;have Ae:=zhd N;have Ad:=zhd M;clear l N M))
 all_goals
  go_upto_region 15 with(fail);refine yab ?_;intro w2 D;have k:w2.heap[W.heap.size+1+1]? =some (.cells #[.int .i64 0,t,.int .i64 7,a,b,nm,.string ⟨#[]⟩,k8,n8,s8,.slice J H I] 40 (0,0)):=by
   rw[D];have:=Ae.o;simp[World.setCell,World.drew,zni,this]
  have L:w2.heap[W.heap.size+1]? =some (.cells #[.int .i64 0,.int .i64 0,.int .i64 0,.int .i64 0,.int .i64 0,.string ⟨#[]⟩,.string ⟨#[]⟩,.int .i64 0,.int .i64 0,.string ⟨#[]⟩,.slice none 0 0] 40 (0,0)):=by
   rw[D];have:=Ad.o;simp[World.setCell,World.drew,zni,this]
  have K2:Keeps (fun j=>j=W+1+1) w1 w2:=by
   rw[D]
   repeat(first|with_reducible exact Keeps.refl _ _|with_reducible refine Keeps.drew ?_|(refine Keeps.setCell ?_ (Or.inl ?h) _;case h=>rfl))
  clear d c Z Y X V U T R Q z10 O P e0 e1 e2 e3 z y u s r q E m p D;obtain⟨d,c,Z,Y,X,V,U,T,R,Q,z10,O,P⟩:=yaW L;obtain⟨e0,e1,e2,e3,z,y,u,s,r,q,E,m,p⟩:=yaW k;have HK:=zhd K2;have Ac:=zhd L;clear k L K2;go_wp2_with fail;refine ybv ?_;intro w3 K;have Aa:w3.heap[W.heap.size+1]? =some (.cells #[.int .i64 0,t,.int .i64 7,a,b,nm,.string ⟨#[]⟩,k8,n8,s8,.slice J H I] 40 (0,0)):=by
   rw[K];have:=Ac.o;simp[World.setCell,zni,this]
  have K3:Keeps (fun j=>j=W+1) w2 w3:=by
   rw[K]
   repeat(first|with_reducible exact Keeps.refl _ _|(refine Keeps.setCell ?_ (Or.inl ?h) _;case h=>rfl))
  clear K d c Z Y X V U T R Q z10 O P e0 e1 e2 e3 z y u s r q E m p;obtain⟨d,c,Z,Y,X,V,U,T,R,Q,z10,O,P⟩:=yaW Aa;refine zng (v:=.agg #[.int .i64 0,t,.int .i64 7,a,b,nm,.string ⟨#[]⟩,k8,n8,s8,.slice J H I]) (by simp only[results,Tryz.results20];go_simp) rfl ?_;have h1:=HB.o.1;have hq:=HB.o.2;have h2:=h1.trans (((znv wc.heap.size wc).drew.trans n.o.2).mono h1.size);have h3:=h2.trans (HK.o.below h2.size (fun j hj e=>by omega));have hC:=n.o.1.mono (G:=fun g=>W.heap.size+3<=g) (fun g B _=>by have B:wc.drew.heap.size<=g:=B;have e:wc.drew.heap.size=wc.heap.size:=rfl;omega);have Ab:=(hC.keep HK.o (fun g B e=>by have B:W.heap.size+3<=g:=B;omega)).keep K3 (fun g B e=>by have B:W.heap.size+3<=g:=B;omega);exact⟨_,_,_,_,_,_,by rw[HE.o],zhd ⟨by rw[HE.o];exact Ab.mono (fun g B _=>by have B:W.heap.size+3<=g:=B;show W<=g;omega),h3.trans (K3.below h3.size (fun j hj e=>by omega))⟩⟩
theorem ydo (c:Cm)(hc:yaX c=0)(hz:szV c.v<=1073741824)(vk vn:Int)(vs:ByteArray)(la:Option Addr)(ln lc:Nat)(F:Nat->Prop)(W:World)(C:CF F W ⟨vk,vn,vs,la,ln,lc⟩ c.v):
  Calls Tryz.prog 20 #[.agg #[c.kind,c.time,c.a,c.b,c.name,vk,vn,vs,.slice la ln lc]] W (yeK W c):=by
 obtain⟨⟨E,D⟩,H,B,G,hv,hk⟩:=yfS hc;obtain⟨k,t,a,b,A,x⟩:=c;dsimp only at*;rcases hk with⟨rfl,_,_⟩|⟨rfl,_,_⟩|rfl|⟨rfl,_,_⟩|⟨rfl,_,_⟩|⟨rfl,_,_⟩
 .exact ynQ t a b A vk vn vs la ln lc x F W C E B D
 .exact ynP t a b A vk vn vs la ln lc x F W C
 .exact ynO t a b A vk vn vs la ln lc x F W C hz
 .exact ynN t a b A vk vn vs la ln lc x F W C hz
 .exact ynM t a b A vk vn vs la ln lc x F W C
 .exact ynL t a b A vk vn vs la ln lc x F W C hz
end Go.Proofs.YtpagmlndgblhhaaGreatDoor
namespace Go.Proofs.YtpagmlndgblhhaaGreatDoor
open Go.RowKit Go.Own Go.Own.MapTy Go.Va Go.Sort
open Go.Own.Cells (sz enc)
set_option linter.unusedVariables false
theorem yfP:ElemOf EC Tryz.prog 22 40 128:=ycj Tryz.underlying22 (z:=.agg #[.int .i64 0,.int .i64 0,.int .i64 0,.int .i64 0,.int .i64 0,.string .empty,.string .empty,.int .i64 0,.int .i64 0,.string .empty,.slice none 0 0]) (n:=11) (by kernel_rfl) rfl rfl
def BZ (Z:Nat->Prop)(lv:Value)(kb g:Nat):Prop:=¬g=kb/\¬lv.ownBlock=some g/\Z g
def ynR (i:IC)(lv:Value)(o:Bool):Array Value:=#[.slice i.ca i.cn i.cc,.slice i.ka i.kn i.kc,.slice i.na i.nn i.nc,.int .i64 i.pl,lv,.pointer none,.bool o]
structure BX (Z:Nat->Prop)(W:World)(kb:Nat)(i:IC)(lv:Value)(p:Img)(bk:BK):Prop where
 h:W.heap[kb]? =some (.cells (ynR i lv bk.over) 71 (0,0))
 row:XRow (BZ Z lv kb) W 40 lv bk.list
 img:IAt (BZ Z lv kb) W i p
 ne:¬lv.ownBlock=some kb
structure BF (kb:Nat)(lv:Value)(W:World)(lv':Value)(W':World):Prop where
 keeps:Keeps (fun j=>j=kb\/lv.ownBlock=some j) W W'
 own:∀j,lv'.ownBlock=some j->lv.ownBlock=some j\/W.heap.size<=j
end Go.Proofs.YtpagmlndgblhhaaGreatDoor
namespace Go.Va
open Go.Own Go.RowKit
def yam (e:Ev):Ev:={e with v:=yaa e.v}
end Go.Va
namespace Go.Proofs.YtpagmlndgblhhaaGreatDoor
open Go.RowKit Go.Own Go.Own.MapTy Go.Va Go.Sort
open Go.Own.Cells (sz enc)
set_option linter.unusedVariables false
def ylh (W:World)(l:List Ev)(e:Ending)(w':World):Prop:=∃r:Value,e= .returned r/\Hid (XRow (fun g=>W<=g/\¬r.ownBlock=some g) w' 40 r l/\(∀g,r.ownBlock=some g->W.heap.size<=g)/\Below W W w')
def EsRel (W:World)(n:Nat)(L:Nat->List Ev)(gk:Nat)(v8 v3:Value)(wr:World):Prop:=
 ∃i:Nat,v8= .int .i64 i/\i<=n/\gk=n - i/\XRow (fun g=>W<=g/\¬v3.ownBlock=some g) wr 40 v3 (L i)/\(∀g,v3.ownBlock=some g->W.heap.size<=g)/\Below W W wr
theorem EsRel.app {W wr w3 w4:World}{va:Option Addr}{vl vc:Nat}{v1:Value}{A:List Ev}{ks:List EC}{c:EC}{x:Ev}(hX:XRow (fun g=>W<=g/\¬(Value.slice va vl vc).ownBlock=some g) wr 40 (.slice va vl vc) A)(hO:∀g,(Value.slice va vl vc).ownBlock=some g->W.heap.size<=g)(hB:Below W W wr)(B3:Below wr wr w3)
  (hP:Ptw (fun g=>W.heap.size<=g/\¬(Value.slice va vl vc).ownBlock=some g) w3 ks A)(hx:EvF (fun g=>W<=g/\¬(Value.slice va vl vc).ownBlock=some g) w3 c x)
  (hr:RowAt w4 40 v1 (ks++[c]))(hk:Keeps (fun j=>(Value.slice va vl vc).ownBlock=some j) (w3.alloc (.cells (enc c).toArray 40)) w4)(hf:∀g,v1.ownBlock=some g->(Value.slice va vl vc).ownBlock=some g\/(w3.alloc (.cells (enc c).toArray 40)).heap.size<=g):
  XRow (fun g=>W.heap.size<=g/\¬v1.ownBlock=some g) w4 40 v1 (A++[x])/\(∀g,v1.ownBlock=some g->W.heap.size<=g)/\Below W W w4:=by
 have E:Below w3 w3 (w3.alloc (.cells (enc c).toArray 40)):=zal;have D:W<=w3.heap.size:=znf hB.size B3.size;have C:∀g,(Value.slice va vl vc).ownBlock=some g->W.heap.size<=g/\g<wr.heap.size:=fun g B=>⟨hO g B,hX.lt B⟩;refine⟨?_,?_,?_⟩
 .have H:Ptw (fun g=>W.heap.size<=g/\¬(Value.slice va vl vc).ownBlock=some g) w3 (ks++[c]) (A++[x]):=hP.app (Ptw.one (x:=x) hx)
  have G:Ptw (fun g=>(W<=g/\¬(Value.slice va vl vc).ownBlock=some g)/\g<w3) w3 (ks++[c]) (A++[x]):=H.mono (fun g B hl=>⟨B,hl⟩);have F:=(G.keep (S:=fun _=>False) (zkb E) (fun _ _ f=>f)).keep hk (fun g B e=>B.1.2 e);refine XRow.of hr (Ptw.mono F ?_);intro g B _;refine⟨B.1.1,fun e=> ?_⟩;rcases hf g e with h|h
  .exact B.1.2 h
  .have h:w3.heap.size+1<=g:=by simpa using h
   have:=B.2;omega
 .intro g B
  rcases hf g B with h|h
  .exact(C g h).1
  .have h:w3.heap.size+1<=g:=by simpa using h
   omega
 .have K34:=((zkb (S:=fun _=>False) E).mono (fun _ _ f=>f.elim)).trans hk (fun _ _ e=>e)
  exact(hB.trans (B3.mono hB.size)).trans (K34.below D (fun j hj e=>by have:=C j e;omega))
theorem ycz {F:Nat->Prop}(W:World)(ea:Option Addr)(en ec:Nat)(l:List Ev)(E:XRd F W (.slice ea en ec) l)(hz:∀e∈l,szV e.v<=1073741824)(hl:l.length<=4000000):
  Calls Tryz.prog 27 #[.slice ea en ec] W (ylh W ((yau l).map yam)):=by
 have Ai:l.length=en:=by obtain⟨a,c,h⟩:=E.slice;cases h;rfl
 have U:=zh4 E hz hl Ai;clear E hz hl Ai;go_in;go_wp2_with fail;go_loopg [8,3] en (fun gk v8 v3 wr=>EsRel W en (fun i=>(yau (l.take i)).map yam) gk v8 v3 wr)
 case atStart=>exact⟨0,rfl,znq _,rfl,XRow.nil _ _ _,(fun g h=>by cases h),znv _ _⟩
 case round=>
  obtain⟨i,rfl,hi,Ag,hX,hO,hB⟩:=hrel;by_cases hin:i<en
  .obtain⟨e,he⟩:=yae (l:=l) (k:=i) (by rw[U.o.2.2.2];exact hin)
   obtain⟨g,At,vk,vn,vs,la,ln,lc,rfl,Aq,B,dv,y0,y1,y2,y3,y4,y5,y6,y7,y8,y9,y10⟩:=yc8 U.o.1 he;rw[<-hB.cell (p:=⟨g,_,none⟩) B]at y0 y1 y2 y3 y4 y5 y6 y7 y8 y9 y10;have Ap:g<wr:=znj B hB.size;have As:(i:Int)<(en:Int):=by omega
   have Ac:wrap64 ((i:Int)+1)=(i:Int)+1:=by have:=U.o.2.2.1;have:=U.o.2.2.2;unfold wrap64;omega
   have Ad:l.take (i+1)=l.take i++[e]:=by rw[List.take_add_one,he];rfl
   have Aa:=U.o.2.1 e (zmg he);have HM:=zhd (show en - (i+1)<gk by omega);have A:=zh6 hX hO hB dv Ad Aa;clear hX hO hB dv Ad Aa he Aq Ag hi;obtain⟨T,R,C,Q,P,O,N,ex⟩:=e;dsimp only at y0 y1 y2 y3 y4 y5 y6;go_upto_region 5 with(fail);refine yab ?_;intro w2 Y;have B2:=zba Y;have b:=zha Y;clear y0 y1 y2 y3 y4 y5 y6 y7 y8 y9 y10 Ap B Y;obtain⟨x0,x1,x2,x3,z,y,u,t,s,r,x10,M,_⟩:=yaW b;obtain⟨q,hq⟩:∃q,yaH C=q:=⟨_,rfl⟩;have OU:=zhd (ybb T R C Q P O N vk vn vs la ln lc w2 q hq);have H2:=zh2 B2 b;have HQ:=zhd hq;clear B2 b hq;go_wp2_with fail;refine OU.o.mono ?_;rintro e w3 ⟨rfl,L⟩;have K:=(L.block wr M).trans H2.o.2;have D:Below wr wr w3:=H2.o.1.trans (L.mono H2.o.1.size);clear x0 x1 x2 x3 z y u t s r x10 M OU;cases q with
   |false=>
    have V:=zhd D;clear K D L;go_wp2_with fail;go_roundg (en - (i+1))
    case measure=>exact HM.o
    case rel=>exact⟨i+1,by simp[Ac],hin,rfl,by dsimp only;rw[A.o.2.2.2.2.1,ybf,show yau [(⟨T,R,C,Q,P,O,N,ex⟩:Ev)]=[] by unfold yau;rw[List.filter_cons,if_neg (by show¬yaH C=true;rw[HQ.o];decide)];rfl,List.append_nil];exact A.o.1.below V.o,A.o.2.1,A.o.2.2.1.trans (V.o.mono A.o.2.2.1.size)⟩
   |true=>
    obtain⟨x0,x1,x2,x3,z,y,u,t,s,r,x10,M,xf⟩:=yaW K;have CL:=zhd (yay ex vk vn vs la ln lc _ w3 (A.o.2.2.2.1.keep (S:=fun _=>False) (zkb (A.o.2.2.1.trans (D.mono A.o.2.2.1.size)|>.mono (znc _))) (fun _ _ f=>f)) A.o.2.2.2.2.2);have V:=zh2 D K;clear K D L;go_wp2_with fail;refine CL.o.mono ?_;rintro e w4 ⟨⟨k8,n8,s8,J,H,I⟩,rfl,H4⟩;have Z:=(H4.o.2.block wr M).trans V.o.2;clear x0 x1 x2 x3 z y u t s r x10 M xf CL;obtain⟨x0,x1,x2,x3,z,y,u,t,s,r,x10,M,xf⟩:=yaW Z;have Ar:=zhd Z;clear Z;go_upto_region 7 with(fail);refine yab ?_;intro w5 X;have Aj:w5.heap[wr.heap.size]? =some (.cells #[T,R,C,Q,P,O,N,k8,n8,s8,.slice J H I] 40 (0,0)):=by
     rw[X];have:=Ar.o;simp[World.setCell,zni,this]
    have K5:Keeps (fun j=>j=wr) w4 w5:=by rw[X];exact ycu w4 wr.heap.size 7 8 9 10 _ _ _ _
    clear x0 x1 x2 x3 z y u t s r x10 M xf X;obtain⟨x0,x1,x2,x3,z,y,u,t,s,r,x10,M,_⟩:=yaW Aj;have n:Below wr wr w4:=V.o.1.trans (H4.o.2.mono V.o.1.size);have m:Below wr wr w5:=n.trans (K5.below n.size (fun jz hj e=>Nat.ne_of_lt hj e));have Ab:=A.o.2.2.1.size;have An:=V.o.1.size;have C5:CF (fun g=>wr<=g) w5 ⟨k8,n8,s8,J,H,I⟩ (yaa ex):=((H4.o.1.mono (G:=fun g=>wr<=g/\g≠wr) (fun g B _=>by have B:w3<=g:=B;have:=zlt V.o.2;omega)).keep K5 (fun g B e=>B.2 e)).mono (fun g B _=>B.1);obtain⟨va,vl,vc,Am⟩:=yaL A.o.1;subst Am;obtain⟨ks,Ak,d⟩:=(A.o.1.below m).cells;have Ao:ks.length<=i:=by
     rw[d.1,zmd];exact znf (List.length_filter_le _ _) (by rw[List.length_take];exact Nat.min_le_left _ _)
    have RA:=zhd (Ak.below ((znv w5.heap.size w5).alloc (znc _) (.cells #[T,R,C,Q,P,O,N,k8,n8,s8,.slice J H I] 40)));have Al:=zhd (show(ks.length+1)*128<=140737488355328/\ks.length+1<=maxLen from by have:=U.o.2.2.1;have:=U.o.2.2.2;unfold maxLen;omega);have H5:=zh3 d m C5;clear Aj K5 n m Ab An C5 Ak d Ao;go_wp2_with (at_builtin;refine ybk (α:=EC) yfP rfl (.tmp 18) (.tmp 20) rfl RA.o (⟨T,R,C,Q,P,O,N,⟨k8,n8,s8,J,H,I⟩⟩:EC) rfl rfl (znb _ _) Al.o.1 Al.o.2 ?_;intro a1 c1 w6 Ae Af Ah;have HF:=zh3 Ae Af Ah;clear Ae Af Ah);go_roundg (en - (i+1))
    case measure=>exact HM.o
    case rel=>
     have Ab:=A.o.2.2.1.size;have AP:=EsRel.app (x:=⟨T,R,C,Q,P,O,N,yaa ex⟩) A.o.1 A.o.2.1 A.o.2.2.1 H5.o.2.1 H5.o.1 ⟨rfl,rfl,rfl,rfl,rfl,rfl,rfl,H5.o.2.2.mono (fun g B _=>⟨(by have B:wr<=g:=B;show W<=g;omega),fun e=>by have:=A.o.1.lt e;have B:wr<=g:=B;omega⟩)⟩ HF.o.1 HF.o.2.1 HF.o.2.2;exact⟨i+1,by simp[Ac],hin,rfl,by dsimp only;rw[A.o.2.2.2.2.1,ybf,show yau [(⟨T,R,C,Q,P,O,N,ex⟩:Ev)]=[⟨T,R,C,Q,P,O,N,ex⟩] by unfold yau;rw[List.filter_cons,if_pos (by show yaH C=true;exact HQ.o)];rfl,List.map_append];exact AP.1,AP.2.1,AP.2.2⟩
  .obtain rfl:i=en:=by omega
   have Au:¬(i:Int)<i:=by omega
   have hT:l.take i=l:=zmj (by rw[U.o.2.2.2];exact znc _);dsimp only at hX;rw[hT]at hX;have A:=zh3 hX hO hB;clear hX hO hB Ag hT hi;go_wp2;go_ret;exact⟨_,rfl,zhd A.o⟩
theorem ycA {F:Nat->Prop}(W:World)(ea:Option Addr)(en ec:Nat)(l:List Ev)(E:XRd F W (.slice ea en ec) l)(hz:∀e∈l,szV e.v<=1073741824)(hl:l.length<=4000000):
  Calls Tryz.prog 30 #[.slice ea en ec] W (ylh W ((yaT l).map yam)):=by
 have Ai:l.length=en:=by obtain⟨a,c,h⟩:=E.slice;cases h;rfl
 have U:=zh4 E hz hl Ai;clear E hz hl Ai;go_in;go_wp2_with fail;go_loopg [8,3] en (fun gk v8 v3 wr=>EsRel W en (fun i=>(yaT (l.take i)).map yam) gk v8 v3 wr)
 case atStart=>exact⟨0,rfl,znq _,rfl,XRow.nil _ _ _,(fun g h=>by cases h),znv _ _⟩
 case round=>
  obtain⟨i,rfl,hi,Ag,hX,hO,hB⟩:=hrel;by_cases hin:i<en
  .obtain⟨e,he⟩:=yae (l:=l) (k:=i) (by rw[U.o.2.2.2];exact hin)
   obtain⟨g,At,vk,vn,vs,la,ln,lc,rfl,Aq,B,dv,y0,y1,y2,y3,y4,y5,y6,y7,y8,y9,y10⟩:=yc8 U.o.1 he;rw[<-hB.cell (p:=⟨g,_,none⟩) B]at y0 y1 y2 y3 y4 y5 y6 y7 y8 y9 y10;have Ap:g<wr:=znj B hB.size;have As:(i:Int)<(en:Int):=by omega
   have Ac:wrap64 ((i:Int)+1)=(i:Int)+1:=by have:=U.o.2.2.1;have:=U.o.2.2.2;unfold wrap64;omega
   have Ad:l.take (i+1)=l.take i++[e]:=by rw[List.take_add_one,he];rfl
   have Aa:=U.o.2.1 e (zmg he);have HM:=zhd (show en - (i+1)<gk by omega);have A:=zh6 hX hO hB dv Ad Aa;clear hX hO hB dv Ad Aa he Aq Ag hi;obtain⟨T,R,C,Q,P,O,N,ex⟩:=e;dsimp only at y0 y1 y2 y3 y4 y5 y6;go_upto_region 5 with(fail);refine yab ?_;intro w2 Y;have B2:=zba Y;have b:=zha Y;clear y0 y1 y2 y3 y4 y5 y6 y7 y8 y9 y10 Ap B Y;obtain⟨x0,x1,x2,x3,z,y,u,t,s,r,x10,M,_⟩:=yaW b;obtain⟨q,hq⟩:∃q,ybd C=q:=⟨_,rfl⟩;have OU:=zhd (ygF T R C Q P O N vk vn vs la ln lc w2 q hq);have H2:=zh2 B2 b;have HQ:=zhd hq;clear B2 b hq;go_wp2_with fail;refine OU.o.mono ?_;rintro e w3 ⟨rfl,L⟩;have K:=(L.block wr M).trans H2.o.2;have D:Below wr wr w3:=H2.o.1.trans (L.mono H2.o.1.size);clear x0 x1 x2 x3 z y u t s r x10 M OU;cases q with
   |false=>
    have V:=zhd D;clear K D L;go_wp2_with fail;go_roundg (en - (i+1))
    case measure=>exact HM.o
    case rel=>exact⟨i+1,by simp[Ac],hin,rfl,by dsimp only;rw[A.o.2.2.2.2.1,ybK,show yaT [(⟨T,R,C,Q,P,O,N,ex⟩:Ev)]=[] by unfold yaT;rw[List.filter_cons,if_neg (by show¬ybd C=true;rw[HQ.o];decide)];rfl,List.append_nil];exact A.o.1.below V.o,A.o.2.1,A.o.2.2.1.trans (V.o.mono A.o.2.2.1.size)⟩
   |true=>
    obtain⟨x0,x1,x2,x3,z,y,u,t,s,r,x10,M,xf⟩:=yaW K;have CL:=zhd (yay ex vk vn vs la ln lc _ w3 (A.o.2.2.2.1.keep (S:=fun _=>False) (zkb (A.o.2.2.1.trans (D.mono A.o.2.2.1.size)|>.mono (znc _))) (fun _ _ f=>f)) A.o.2.2.2.2.2);have V:=zh2 D K;clear K D L;go_wp2_with fail;refine CL.o.mono ?_;rintro e w4 ⟨⟨k8,n8,s8,J,H,I⟩,rfl,H4⟩;have Z:=(H4.o.2.block wr M).trans V.o.2;clear x0 x1 x2 x3 z y u t s r x10 M xf CL;obtain⟨x0,x1,x2,x3,z,y,u,t,s,r,x10,M,xf⟩:=yaW Z;have Ar:=zhd Z;clear Z;go_upto_region 7 with(fail);refine yab ?_;intro w5 X;have Aj:w5.heap[wr.heap.size]? =some (.cells #[T,R,C,Q,P,O,N,k8,n8,s8,.slice J H I] 40 (0,0)):=by
     rw[X];have:=Ar.o;simp[World.setCell,zni,this]
    have K5:Keeps (fun j=>j=wr) w4 w5:=by rw[X];exact ycu w4 wr.heap.size 7 8 9 10 _ _ _ _
    clear x0 x1 x2 x3 z y u t s r x10 M xf X;obtain⟨x0,x1,x2,x3,z,y,u,t,s,r,x10,M,_⟩:=yaW Aj;have n:Below wr wr w4:=V.o.1.trans (H4.o.2.mono V.o.1.size);have m:Below wr wr w5:=n.trans (K5.below n.size (fun jz hj e=>Nat.ne_of_lt hj e));have Ab:=A.o.2.2.1.size;have An:=V.o.1.size;have C5:CF (fun g=>wr<=g) w5 ⟨k8,n8,s8,J,H,I⟩ (yaa ex):=((H4.o.1.mono (G:=fun g=>wr<=g/\g≠wr) (fun g B _=>by have B:w3<=g:=B;have:=zlt V.o.2;omega)).keep K5 (fun g B e=>B.2 e)).mono (fun g B _=>B.1);obtain⟨va,vl,vc,Am⟩:=yaL A.o.1;subst Am;obtain⟨ks,Ak,d⟩:=(A.o.1.below m).cells;have Ao:ks.length<=i:=by
     rw[d.1,zmd];exact znf (List.length_filter_le _ _) (by rw[List.length_take];exact Nat.min_le_left _ _)
    have RA:=zhd (Ak.below ((znv w5.heap.size w5).alloc (znc _) (.cells #[T,R,C,Q,P,O,N,k8,n8,s8,.slice J H I] 40)));have Al:=zhd (show(ks.length+1)*128<=140737488355328/\ks.length+1<=maxLen from by have:=U.o.2.2.1;have:=U.o.2.2.2;unfold maxLen;omega);have H5:=zh3 d m C5;clear Aj K5 n m Ab An C5 Ak d Ao;go_wp2_with (at_builtin;refine ybk (α:=EC) yfP rfl (.tmp 18) (.tmp 20) rfl RA.o (⟨T,R,C,Q,P,O,N,⟨k8,n8,s8,J,H,I⟩⟩:EC) rfl rfl (znb _ _) Al.o.1 Al.o.2 ?_;intro a1 c1 w6 Ae Af Ah;have HF:=zh3 Ae Af Ah;clear Ae Af Ah);go_roundg (en - (i+1))
    case measure=>exact HM.o
    case rel=>
     have Ab:=A.o.2.2.1.size;have AP:=EsRel.app (x:=⟨T,R,C,Q,P,O,N,yaa ex⟩) A.o.1 A.o.2.1 A.o.2.2.1 H5.o.2.1 H5.o.1 ⟨rfl,rfl,rfl,rfl,rfl,rfl,rfl,H5.o.2.2.mono (fun g B _=>⟨(by have B:wr<=g:=B;show W<=g;omega),fun e=>by have:=A.o.1.lt e;have B:wr<=g:=B;omega⟩)⟩ HF.o.1 HF.o.2.1 HF.o.2.2;exact⟨i+1,by simp[Ac],hin,rfl,by dsimp only;rw[A.o.2.2.2.2.1,ybK,show yaT [(⟨T,R,C,Q,P,O,N,ex⟩:Ev)]=[⟨T,R,C,Q,P,O,N,ex⟩] by unfold yaT;rw[List.filter_cons,if_pos (by show ybd C=true;exact HQ.o)];rfl,List.map_append];exact AP.1,AP.2.1,AP.2.2⟩
  .obtain rfl:i=en:=by omega
   have Au:¬(i:Int)<i:=by omega
   have hT:l.take i=l:=zmj (by rw[U.o.2.2.2];exact znc _);dsimp only at hX;rw[hT]at hX;have A:=zh3 hX hO hB;clear hX hO hB Ag hT hi;go_wp2;go_ret;exact⟨_,rfl,zhd A.o⟩
end Go.Proofs.YtpagmlndgblhhaaGreatDoor
namespace Go.Va
open Go.Own Go.RowKit
open Go.Proofs.YtpagmlndgblhhaaGreatDoor
set_option linter.unusedVariables false
def yaP:Nat->List Ev->List Ev
 |_,[]=>[]
 |n,e::l=>{e with id:=(n:Int)+1,v:=yaa e.v}::yaP (n+1) l
theorem yfM:∀(l:List Ev) (n:Nat),(yaP n l).map yap=l.map yap
 |[],_=>rfl
 |e::l,n=>by
  rw[yaP,List.map_cons,List.map_cons,yfM l]
  congr 1
  unfold yap;dsimp only;rw[yaY]
theorem yes:∀(l:List Ev) (n:Nat),(yaP n l).length=l.length
 |[],_=>rfl
 |e::l,n=>by rw[yaP,List.length_cons,List.length_cons,yes l]
theorem ymF:∀(l:List Ev) (n:Nat) (e:Ev),e∈yaP n l->1<=e.id/\e.id<=(n:Int)+l.length
 |[],_,_,h=>by cases h
 |x::l,n,e,h=>by
  rw[List.length_cons];rcases List.mem_cons.1 h with rfl|h
  .exact⟨by show(1:Int)<=(n:Int)+1;omega,by show(n:Int)+1<=_;omega⟩
  .have:=ymF l (n+1) e h
   omega
theorem yc1 (l:List Ev):(yau l).map yap=yau (l.map yap):=by
 unfold yau;rw[List.filter_map];rfl
theorem ygo (l:List Ev):(yaT l).map yap=yaT (l.map yap):=by
 unfold yaT;rw[List.filter_map];rfl
theorem ynh (e:Ev):yap (yam e)=yap e:=by unfold yap yam;dsimp only;rw[yaY]
theorem yir (l:List Ev):(l.map yam).map yap=l.map yap:=by
 rw[List.map_map];exact List.map_congr_left (fun e _=>ynh e)
theorem ymk (e:Ev):yaf (yam e)=yaf e:=by
 unfold yaf yam;dsimp only;rw[yaz,yaJ]
theorem ymj {e f:Ev}(h:yaf e=0)(hn:yap e=yap f)(hk:f.kind≠21)(hi:1<=f.id/\f.id<=1048576):yaf f=0:=by
 have I:e.time=f.time:=(congrArg Ev.time hn:(yap e).time=(yap f).time);have C:e.kind=f.kind:=(congrArg Ev.kind hn:(yap e).kind=(yap f).kind);have H:e.a=f.a:=(congrArg Ev.a hn:(yap e).a=(yap f).a);have B:(if e.kind=21 then 0 else e.b)=(if f.kind=21 then 0 else f.b):=congrArg Ev.b hn;have G:e.name=f.name:=(congrArg Ev.name hn:(yap e).name=(yap f).name);have F:e.text=f.text:=(congrArg Ev.text hn:(yap e).text=(yap f).text);have A:yaa e.v=yaa f.v:=(congrArg Ev.v hn:(yap e).v=(yap f).v);rw[C,if_neg hk,if_neg hk]at B;have E:checkL e.v=checkL f.v:=by rw[<-yaz,A,yaz]
 have D:e.v.kind=f.v.kind:=by rw[<-yaJ,A,yaJ]
 have J:=ya0 h;unfold yaf at h|-;rw[I,C,H,B,G,F,E,D]at h;split at h
 .cases h
 .rw[if_neg (by omega)]
  split at h
  .cases h
  .exact h
section
variable{p:Img} {fa:Fa} {r:RM} {b:BK} {n:Nat}
theorem HI.agree' {l:List Ev}{q:RP}(H:HI p l q):yaw p (yau l)=(yaT l).map yap++(NL q.fired (q.m.made.drop q.next)).map evOfC:=by
 have C:∀a,a∈ybX (yau l)↔a∈q.fired:=fun a=>by
  rw[yfd,H.fired];constructor
  .rintro⟨x,A,h⟩;exact⟨x,(List.mem_filter.1 A).1,h⟩
  .rintro⟨x,A,B,D⟩;exact⟨x,List.mem_filter.2 ⟨A,by show yaH x.kind=true;rw[B];decide⟩,B,D⟩
 unfold yaw;rw[ylg C,<-H.mach,H.found,<-List.map_append,<-yfq,List.take_append_drop]
theorem ydZ {l L:List Ev}{q:RP}(H:HI p l q)(hev:∀e∈l,yaf e=0)(hL:L.map yap=l.map yap)(hid:∀e∈L,1<=e.id/\e.id<=1048576):yaw p ((yau L).map yam)=(yaT L).map yap++(NL q.fired (q.m.made.drop q.next)).map evOfC/\∀e∈(yau L).map yam,yaf e=0:=by
 have D:∀e∈(yau L).map yam,yaf e=0:=fun e he=>by
  obtain⟨f,F,rfl⟩:=List.mem_map.1 he;rw[ymk];obtain⟨B,A⟩:=List.mem_filter.1 F;have hm:yap f∈l.map yap:=by rw[<-hL];exact List.mem_map_of_mem B
  obtain⟨g,E,C⟩:=List.mem_map.1 hm;refine ymj (hev g E) C (fun h21=> ?_) (hid f B);have A:yaH f.kind=true:=A;rw[h21]at A;exact absurd A (by decide)
 refine⟨?_,D⟩;rw[yg8 (m:=yau l) D (fun e he=>hev e (List.mem_filter.1 he).1) (by rw[yir,yc1,yc1,hL]),H.agree',ygo L,ygo l,hL]
theorem ykn {l L:List Ev}(h:L.map yap=l.map yap)(k:Nat):(L.take k).map yap=(l.take k).map yap:=by rw[List.map_take,List.map_take,h]
end
end Go.Va
