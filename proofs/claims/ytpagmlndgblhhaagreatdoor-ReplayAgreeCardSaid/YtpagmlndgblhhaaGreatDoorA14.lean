/- Parts of the proof: what the functions and the plain laws give that later parts lean on. Conditions: none beyond those that each theorem names. -/
import Derived.Lib.IndexMore
import Derived.Test.YtpagmlndgblhhaaGreatDoorA6
set_option maxRecDepth 100000
set_option maxHeartbeats 8000000
namespace Go.Va
open Go.Own Go.RowKit
def wds:List (List UInt8×List UInt8):=[([114,117,110,45,115,116,97,114,116,101,100],[65,66,78,84,86]),
 ([116,97,115,107,45,115,99,104,101,100,117,108,101,100],[66]),
 ([116,97,115,107,45,115,116,97,114,116,101,100],[65,66]),
 ([116,97,115,107,45,99,111,109,112,108,101,116,101,100],[65,66]),
 ([116,97,115,107,45,116,105,109,101,100,45,111,117,116],[66]),
 ([116,97,115,107,45,102,97,105,108,101,100],[66,78]),
 ([97,99,116,105,118,105,116,121,45,115,99,104,101,100,117,108,101,100],[65,66,78,86]),
 ([97,99,116,105,118,105,116,121,45,99,111,109,112,108,101,116,101,100],[65,86]),
 ([97,99,116,105,118,105,116,121,45,102,97,105,108,101,100],[65,78]),
 ([97,99,116,105,118,105,116,121,45,116,105,109,101,100,45,111,117,116],[65]),
 ([116,105,109,101,114,45,115,116,97,114,116,101,100],[65,66]),
 ([116,105,109,101,114,45,102,105,114,101,100],[65]),
 ([116,105,109,101,114,45,99,97,110,99,101,108,101,100],[65]),
 ([115,105,103,110,97,108,45,114,101,99,101,105,118,101,100],[78,86]),
 ([99,97,110,99,101,108,45,114,101,113,117,101,115,116,101,100],[]),
 ([114,117,110,45,99,111,109,112,108,101,116,101,100],[86]),
 ([114,117,110,45,102,97,105,108,101,100],[78]),
 ([114,117,110,45,99,97,110,99,101,108,101,100],[]),
 ([114,117,110,45,116,101,114,109,105,110,97,116,101,100],[78]),
 ([114,117,110,45,116,105,109,101,100,45,111,117,116],[]),
 ([99,111,110,116,105,110,117,101,100,45,97,115,45,110,101,119],[66,86])]
def wl:List (List UInt8×List UInt8)->List UInt8
 |[]=>[]
 |(a,b)::r=>a++58::(b++32::wl r)
def restW (i:Nat):ByteArray:=⟨(wl (wds.drop i)).toArray⟩
def ynb (i:Nat):ByteArray:=⟨(match wds[i]? with|some (a,b)=>a++58::b|none=>[]).toArray⟩
def yjo (i:Nat):ByteArray:=⟨(wds[i]?.getD ([],[])).1.toArray⟩
def ycK (i:Nat):ByteArray:=⟨(wds[i]?.getD ([],[])).2.toArray⟩
theorem ylR (i:Fin 21):Lib.cut (restW i).data.toList [32]=((ynb i).data.toList,(restW (i+1)).data.toList,true):=by revert i;decide+kernel
theorem ym8 (i:Fin 21):Lib.cut (ynb i).data.toList [58]=((yjo i).data.toList,(ycK i).data.toList,true):=by revert i;decide+kernel
theorem yc3 (i:Fin 22):(restW i).size<=367/\(ynb i).size<=367/\((restW i).size=0↔i.val=21):=by revert i;decide+kernel
theorem ygd (i:Fin 21):(yjo i).size≠0/\(yjo i).size<=64/\(ycK i).size<=8:=by revert i;decide+kernel
def hasF (s:ByteArray)(c:UInt8):Bool:=decide (0<=Lib.indexByte s.data.toList c)
def evN (k:Int):ByteArray:=if 1<=k/\k<=21 then yjo (k.toNat - 1)else⟨#[]⟩
def evF (k:Int):ByteArray:=if 1<=k/\k<=21 then ycK (k.toNat - 1)else⟨#[]⟩
theorem ynt (i:Fin 21):ygo ((i.val:Int)+1)=some (hasF (ycK i) 65,hasF (ycK i) 66,hasF (ycK i) 78,hasF (ycK i) 84,hasF (ycK i) 86):=by revert i;decide+kernel
theorem yff {k:Int}(h:1<=k/\k<=21):ygo k=some (hasF (evF k) 65,hasF (evF k) 66,hasF (evF k) 78,hasF (evF k) 84,hasF (evF k) 86)/\(evN k).size≠0/\(evF k).size<=8:=by
 obtain⟨i,rfl⟩:∃i:Nat,k=(i:Int)+1:=⟨k.toNat - 1,by omega⟩;have A:i<21:=by omega
 have e:(((i:Int)+1).toNat - 1)=i:=by omega
 unfold evF evN;rw[if_pos h,if_pos h,e];exact⟨ynt ⟨i,A⟩,(ygd ⟨i,A⟩).1,(ygd ⟨i,A⟩).2.2⟩
theorem ydo {k:Int}(h:¬(1<=k/\k<=21)):ygo k=none/\evN k=⟨#[]⟩/\evF k=⟨#[]⟩:=by
 refine⟨?_,if_neg h,if_neg h⟩;unfold ygo
 repeat' (rw[if_neg (by omega)])
end Go.Va
namespace Go.Proofs.YtpagmlndgblhhaaGreatDoor
open Go.RowKit Go.Own Go.Own.MapTy Go.Va Go.Sort
open Go.Own.Cells (sz enc)
theorem yiA {N:Nat}(s sep a r:ByteArray)(W:World)(G:Gl Tryz.prog N W)(hs:s.size<=400)(h:Lib.cut s.data.toList sep.data.toList=(a.data.toList,r.data.toList,true)):
  Calls Tryz.prog 90 #[s,sep] W (fun e w'=>e= .returned (.tuple #[a,r,.bool true])/\Below W W w'):=by
 obtain⟨m,hm⟩:=G.m;exact(Any.strings_Cut Tryz.lays145 s sep m W (by omega) hm).mono fun e w' ⟨j1,n,j2⟩=>⟨by rw[j1,h],by rw[j2];exact⟨rfl,rfl,rfl,znc _,fun _ _=>rfl⟩⟩
def yjN (k:Int)(j:Nat):ByteArray:=if(j:Int)=k then evN k else⟨#[]⟩
def yjO (k:Int)(j:Nat):ByteArray:=if(j:Int)=k then evF k else⟨#[]⟩
theorem ykv (k:Int):yjN k 0=⟨#[]⟩/\yjO k 0=⟨#[]⟩:=by
 unfold yjN yjO evN evF;constructor
 .split
  .rw[if_neg (by omega)]
  .rfl
 .split
  .rw[if_neg (by omega)]
  .rfl
def ypU (w:World)(k:Int)(gk:Nat)(v2 v3 v4 v5:Value)(wr:World):Prop:=
 ∃j:Nat,v2= .string (yjN k j)/\v3= .string (yjO k j)/\v4= .string (restW j)/\v5= .int .i64 ((j:Int)+1)/\j<=21/\(j=0\/(j:Int)<=k)/\gk=21 - j/\Below w w wr
theorem yk0 {N:Nat}(k:Int)(w:World)(G:Gl Tryz.prog N w):Calls Tryz.prog 53 #[k] w (fun e w'=>e= .returned (.tuple #[.string (evN k),.string (evF k)])/\Below w w w'):=by
 have b:=zhd (fun(i:Nat) (hi:i<21) W (B:Below w w W)=>yiA (restW i) ⟨#[32]⟩ (ynb i) (restW (i+1)) W (G.below B) (by have h:(restW i).size<=367:=(yc3 ⟨i,by omega⟩).1;omega) (ylR ⟨i,hi⟩));have a:=zhd (fun(i:Nat) (hi:i<21) W (B:Below w w W)=>yiA (ynb i) ⟨#[58]⟩ (yjo i) (ycK i) W (G.below B) (by have h:(ynb i).size<=367:=(yc3 ⟨i,by omega⟩).2.1;omega) (ym8 ⟨i,hi⟩));have n:=zhd G;clear G;go_in;go_wp2_with fail;go_loopg [2,3,4,5] 21 (fun gk v2 v3 v4 v5 wr=>ypU w k gk v2 v3 v4 v5 wr)
 case atStart=>exact⟨0,by rw[(ykv k).1],by rw[(ykv k).2],congrArg Value.string (by kernel_rfl),rfl,znq _,.inl rfl,rfl,znv _ _⟩
 case round=>
  obtain⟨j,rfl,rfl,rfl,rfl,g,M,D,J⟩:=hrel;by_cases h1:(j:Int)+1<=k
  .by_cases h2:j<21
   .have H:(restW j).size≠0:=fun e=>by have:=(yc3 ⟨j,by omega⟩).2.2.1 e;simp at this;omega
    obtain⟨r,K⟩:∃r,restW j=r:=⟨_,rfl⟩;obtain⟨d,F⟩:∃r,restW (j+1)=r:=⟨_,rfl⟩;obtain⟨o,T⟩:∃o,ynb j=o:=⟨_,rfl⟩;have R:=b.o j h2;rw[K,F,T]at R;have R:=zhd R;have l:r.toList.isEmpty=false:=by
     rw[List.isEmpty_eq_false_iff,zml];intro e;rw[K]at H;exact H (by have:=congrArg List.length e;simpa using this)
    have m:=zhd (show wrap64 ((j:Int)+1+1)=(j:Int)+1+1 from by unfold wrap64;omega);have E:=zh5 D J K F T;rw[K];have X:=zhd (show 21 - (j+1)<gk from by omega);clear H K F T D J;by_cases h3:(j:Int)+1=k
    .have S:=a.o j h2
     rw[E.o.2.2.2.2]at S;have S:=zhd S;have U:((j:Int)+1==k)=true:=by rw[beq_iff_eq];exact h3
     have L:yjo j=yjN k (j+1)/\ycK j=yjO k (j+1):=by
      unfold yjN yjO evN evF;rw[if_pos (by omega),if_pos (by omega),if_pos (by omega),if_pos (by omega)];have:k.toNat - 1=j:=by omega
      rw[this];exact⟨rfl,rfl⟩
     have C:=zhd L;clear L;go_wp2_with fail;refine(R.o _ E.o.2.1).mono ?_;rintro e Y ⟨rfl,A⟩;have Q:=zhd (E.o.2.1.trans (A.mono E.o.2.1.size));clear A;go_wp2_with fail;refine(S.o _ Q.o).mono ?_;rintro e c ⟨rfl,P⟩;have Z:=zhd (Q.o.trans (P.mono Q.o.size));clear P;go_wp2_with fail;go_roundg (21 - (j+1))
     case measure=>exact X.o
     case rel=>exact⟨j+1,by rw[C.o.1],by rw[C.o.2],by rw[E.o.2.2.2.1],congrArg (Value.int .i64) (by omega),by omega,.inr (by omega),rfl,Z.o⟩
    .have U:((j:Int)+1==k)=false:=by rw[zna];exact h3
     have L:yjN k j=yjN k (j+1)/\yjO k j=yjO k (j+1):=by
      unfold yjN yjO;rw[if_neg (by omega),if_neg (by omega),if_neg (by omega),if_neg (by omega)];exact⟨rfl,rfl⟩
     have C:=zhd L;clear L;go_wp2_with fail;refine(R.o _ E.o.2.1).mono ?_;rintro e Y ⟨rfl,A⟩;have Q:=zhd (E.o.2.1.trans (A.mono E.o.2.1.size));clear A;go_wp2_with fail;go_roundg (21 - (j+1))
     case measure=>exact X.o
     case rel=>exact⟨j+1,by rw[C.o.1],by rw[C.o.2],by rw[E.o.2.2.2.1],congrArg (Value.int .i64) (by omega),by omega,.inr (by omega),rfl,Q.o⟩
   .have O:j=21:=by omega
    have f:(restW j).toList.isEmpty=true:=by
     have:(restW j).size=0:=by rw[O];exact(yc3 ⟨21,by omega⟩).2.2.2 rfl
     rw[List.isEmpty_iff,zml];exact List.length_eq_zero_iff.1 (by simpa using this)
    have I:yjN k j=evN k/\yjO k j=evF k:=by
     unfold yjN yjO evN evF;rw[if_neg (by omega),if_neg (by omega),if_neg (by omega),if_neg (by omega)];exact⟨rfl,rfl⟩
    rw[I.1,I.2];have V:=zhd J;generalize restW j=r at*;clear I J D M O;go_wp2
    go_ret2
    exact⟨rfl,V.o⟩
  .have I:yjN k j=evN k/\yjO k j=evF k:=by
    unfold yjN yjO;by_cases e:(j:Int)=k
    .rw[if_pos e,if_pos e];exact⟨rfl,rfl⟩
    .rw[if_neg e,if_neg e]
     unfold evN evF;rw[if_neg (by omega),if_neg (by omega)];exact⟨rfl,rfl⟩
   rw[I.1,I.2];have V:=zhd J;clear I J D M;go_wp2
   go_ret2
   exact⟨rfl,V.o⟩
theorem yeo (s:ByteArray)(c:UInt8)(w:World)(b:Bool)(hb:hasF s c=b):Calls Tryz.prog 54 #[s,.int .u8 (c.toNat:Int)] w (fun e w'=>e= .returned (.bool b)/\w=w'):=by
 have A:=Any.strings_IndexByte Tryz.lays137 s (c.toNat:Int) w;have C:(c.toNat:Int).toNat.toUInt8=c:=by simp
 rw[C]at A;have E:=zhd (show Calls Tryz.prog 98 #[s,.int .u8 (c.toNat:Int)] w (fun e w'=>e= .returned (.int .i64 (Lib.indexByte s.data.toList c))/\w'=w)from A);clear A;unfold hasF at hb;generalize Lib.indexByte s.data.toList c=z at*;have F:=zhd hb;clear hb C;go_in;go_wp2_with fail;refine E.o.mono ?_;rintro e D ⟨rfl,B⟩;rw[B];clear B D;go_wp2;go_ret;exact⟨by rw[<-F.o];rfl,rfl⟩
theorem ybK (id t k a b:Int)(nm tx:ByteArray)(vk vn:Int)(vs:ByteArray)(la:Option Addr)(ln lc:Nat)(w:World)(r:Bool)(hr:decide (16<=k/\k<=21)=r):
  Calls Tryz.prog 35 #[.agg #[id,t,k,a,b,nm,tx,vk,vn,vs,.slice la ln lc]] w (fun e w'=>e= .returned (.bool r)/\Below w w w'):=by
 by_cases h1:16<=k
 .by_cases h2:k<=21
  .have hr:r=true:=by rw[<-hr];exact zno ⟨h1,h2⟩
   subst hr;go_in;go_wp2;go_ret;exact⟨rfl,zal⟩
  .have hr:r=false:=by rw[<-hr];exact znd (fun h=>h2 h.2)
   subst hr;go_in;go_wp2;go_ret;exact⟨rfl,zal⟩
 .have hr:r=false:=by rw[<-hr];exact znd (fun h=>h1 h.1)
  subst hr;go_in;go_wp2;go_ret;exact⟨rfl,zal⟩
theorem ybO (s:ByteArray):s.toList.isEmpty=decide (s.size=0):=by
 rw[zml];by_cases h:s.size=0
 .rw[zno h,List.isEmpty_iff]
  exact List.length_eq_zero_iff.1 (by simpa using h)
 .rw[znd h,List.isEmpty_eq_false_iff]
  intro e;exact h (by have:=congrArg List.length e;simpa using this)
theorem yam (id t k a b:Int)(nm tx:ByteArray)(vk vn:Int)(vs:ByteArray)(la:Option Addr)(ln lc:Nat)(w:World)(r:Bool)(hr:yaH k=r):
  Calls Tryz.prog 15 #[.agg #[id,t,k,a,b,nm,tx,vk,vn,vs,.slice la ln lc]] w (fun e w'=>e= .returned (.bool r)/\Below w w w'):=by
 subst hr;by_cases h8:k=8
 .subst h8
  go_in;go_wp2;go_ret;exact⟨rfl,zal⟩
 .have J:(k==8)=false:=by rw[zna];exact h8
  by_cases h9:k=9
  .subst h9
   go_in;go_wp2;go_ret;exact⟨rfl,zal⟩
  .have I:(k==9)=false:=by rw[zna];exact h9
   by_cases h10:k=10
   .subst h10
    go_in;go_wp2;go_ret;exact⟨rfl,zal⟩
   .have G:(k==10)=false:=by rw[zna];exact h10
    by_cases h12:k=12
    .subst h12
     go_in;go_wp2;go_ret;exact⟨rfl,zal⟩
    .have F:(k==12)=false:=by rw[zna];exact h12
     by_cases h14:k=14
     .subst h14
      go_in;go_wp2;go_ret;exact⟨rfl,zal⟩
     .have E:(k==14)=false:=by rw[zna];exact h14
      by_cases h15:k=15
      .subst h15
       go_in;go_wp2;go_ret;exact⟨rfl,zal⟩
      .have D:(k==15)=false:=by rw[zna];exact h15
       by_cases h19:k=19
       .subst h19
        go_in;go_wp2;go_ret;exact⟨rfl,zal⟩
       .have C:(k==19)=false:=by rw[zna];exact h19
        by_cases h20:k=20
        .subst h20
         go_in;go_wp2;go_ret;exact⟨rfl,zal⟩
        .have B:(k==20)=false:=by rw[zna];exact h20
         have A:(k==1)=yaH k:=by
          unfold yaH;by_cases h1:k=1
          .rw[h1];decide
          .rw[znd (by omega),zna];exact h1
         have H:=zhd A;clear h8 h9 h10 h12 h14 h15 h19 h20 A;go_in;go_wp2;go_ret;exact⟨by rw[<-H.o];rfl,zal⟩
theorem yaw {N:Nat}(id t k a b:Int)(nm tx:ByteArray)(vk vn:Int)(vs:ByteArray)(la:Option Addr)(ln lc:Nat)(w:World)(G:Gl Tryz.prog N w)(cl:Int)(CH:∀W,Below w w W->Calls Tryz.prog 55 #[.agg #[vk,vn,vs,.slice la ln lc]] W (fun e w'=>e= .returned (.int .i64 cl)/\Below W W w'))(r:Int)(hr:ynV k id t a b nm.size tx.size vk cl=r):
  Calls Tryz.prog 16 #[.agg #[id,t,k,a,b,nm,tx,vk,vn,vs,.slice la ln lc]] w (fun e w'=>e= .returned (.int .i64 r)/\Below w w w'):=by
 obtain⟨M,F⟩:∃M,M=w.alloc (.cells #[id,t,k,a,b,nm,tx,vk,vn,vs,.slice la ln lc] 40):=⟨_,rfl⟩;have g:=zba F;have Q:=zha F;have u:=zca Q 2 rfl;have EN:=zhd (yk0 k M (G.below g));have j:w<M.heap.size:=zlt Q;have f:=zh2 g Q;have Z:=zhd CH;clear g Q CH G;unfold ynV at hr;go_in;go_wp2_with fail;rw[<-F];clear F;refine EN.o.mono ?_;rintro e i ⟨rfl,K⟩;have B:=(K.block w j).trans f.o.2;have C:=zhd (f.o.1.trans (K.mono f.o.1.size));have q0:=zca B 0 rfl;have q1:=zca B 1 rfl;have q3:=zca B 3 rfl;have q4:=zca B 4 rfl;have q5:=zca B 5 rfl;have q6:=zca B 6 rfl;have q7:=zca B 7 rfl;have q8:=zca B 8 rfl;have q9:=zca B 9 rfl;have v:=zca B 10 rfl;have l5:w<i.heap.size:=zlt B;clear B K u j;by_cases hk:1<=k/\k<=21
 .obtain⟨m,l,e3⟩:=yff hk
  rw[m]at hr;dsimp only at hr;have y:(evN k).toList.isEmpty=false:=by rw[ybO];exact znd l
  have HA:=zhd (fun W=>yeo (evF k) 65 W _ rfl);have c:=zhd (fun W=>yeo (evF k) 66 W _ rfl);have HN:=zhd (fun W=>yeo (evF k) 78 W _ rfl);have HT:=zhd (fun W=>yeo (evF k) 84 W _ rfl);have V:=zhd (fun W=>yeo (evF k) 86 W _ rfl);generalize hasF (evF k) 65=hA at*;generalize hasF (evF k) 66=hBb at*;generalize hasF (evF k) 78=hN at*;generalize hasF (evF k) 84=hT at*;generalize hasF (evF k) 86=hV at*;generalize evF k=fd at*;generalize evN k=nk at*;clear m l e3 hk;by_cases h1:id<1
  .rw[if_pos (.inl h1)]at hr
   have A:=zhd hr;have L:decide (id<1)=true:=zno h1;clear hr;go_wp2_with fail
   all_goals
    go_ret;exact⟨by rw[<-A.o];rfl,C.o⟩
  .by_cases h2:1048576<id
   .rw[if_pos (.inr (.inl h2))]at hr
    have A:=zhd hr;have L:decide (id<1)=false:=znd h1;have R:decide (1048576<id)=true:=zno h2;clear hr;go_wp2_with fail
    all_goals
     go_ret;exact⟨by rw[<-A.o];rfl,C.o⟩
   .by_cases h3:t<0
    .rw[if_pos (.inr (.inr (.inl h3)))]at hr
     have A:=zhd hr;have L:decide (id<1)=false:=znd h1;have R:decide (1048576<id)=false:=znd h2;have U:decide (t<0)=true:=zno h3;clear hr;go_wp2_with fail
     all_goals
      go_ret;exact⟨by rw[<-A.o];rfl,C.o⟩
    .by_cases h4:4611686018427387903<t
     .rw[if_pos (.inr (.inr (.inr h4)))]at hr
      have A:=zhd hr;have L:decide (id<1)=false:=znd h1;have R:decide (1048576<id)=false:=znd h2;have U:decide (t<0)=false:=znd h3;have s:decide (4611686018427387903<t)=true:=zno h4;clear hr;go_wp2_with fail
      all_goals
       go_ret;exact⟨by rw[<-A.o];rfl,C.o⟩
     .rw[if_neg (fun h=>h.elim h1 (fun h=>h.elim h2 (fun h=>h.elim h3 h4)))]at hr
      have A:=zhd hr;have L:decide (id<1)=false:=znd h1;have R:decide (1048576<id)=false:=znd h2;have U:decide (t<0)=false:=znd h3;have s:decide (4611686018427387903<t)=false:=znd h4;clear hr;go_upto_region 6 with(fail);clear h1 h2 h3 h4 L R U s;go_cut [33] (fun v33 wx=>v33= .bool (decide (a<0\/b<0\/(hA=false/\a≠0)\/(hBb=false/\b≠0)))/\wx=i)
      case first=>
       by_cases h1:a<0
       .have d:=zhd (zno (p:=a<0\/b<0\/(hA=false/\a≠0)\/(hBb=false/\b≠0)) (.inl h1))
        go_wp2_with fail;go_meet
        case rel=>exact⟨by rw[d.o],rfl⟩
       .by_cases h2:b<0
        .have d:=zhd (zno (p:=a<0\/b<0\/(hA=false/\a≠0)\/(hBb=false/\b≠0)) (.inr (.inl h2)))
         go_wp2_with fail;go_meet
         case rel=>exact⟨by rw[d.o],rfl⟩
        .have P:(a !=0)=decide (a≠0):=by by_cases h:a=0<;>simp[h]
         have O:(b !=0)=decide (b≠0):=by by_cases h:b=0<;>simp[h]
         have d:decide (a<0\/b<0\/(hA=false/\a≠0)\/(hBb=false/\b≠0))=((!hA&&(a !=0))||(!hBb&&(b !=0))):=by
          rw[P,O];cases hA<;>cases hBb<;>simp[h1,h2]
         obtain⟨T,J⟩:∃z,(a !=0)=z:=⟨_,rfl⟩;obtain⟨S,I⟩:∃z,(b !=0)=z:=⟨_,rfl⟩;rw[J,I]at d;have Y:=zhd d;have n1:decide (a<0)=false:=znd h1;have n2:decide (b<0)=false:=znd h2;clear d P O h1 h2;cases hA<;>cases hBb<;>cases T<;>cases S
         all_goals
          go_wp2_with fail;refine(HA.o _).mono ?_;rintro e H ⟨rfl,D⟩;subst D;go_wp2_with fail
          try(refine(c.o _).mono ?_;rintro e H ⟨rfl,D⟩;subst D;go_wp2_with fail)
          go_meet
          case rel=>exact⟨by rw[Y.o];rfl,rfl⟩
      case rest=>
       obtain⟨rfl,rfl⟩:=hcut;cases hd:decide (a<0\/b<0\/(hA=false/\a≠0)\/(hBb=false/\b≠0))with
       |true=>
        have A:=zhd (show(1:Int)=r from by
         have h:=A.o;rw[if_pos (znx hd)]at h;exact h)
        go_wp2_with fail
        all_goals
         go_ret;exact⟨by rw[<-A.o];rfl,C.o⟩
       |false=>
        have A:=zhd (show(if 64<nm.size\/128<tx.size then 2 else if(hN=false/\nm.size≠0)\/(hT=false/\tx.size≠0)then 8 else if hV=false/\vk≠0 then 8 else cl)=r from by
         have h:=A.o;rw[if_neg (zny hd)]at h;exact h)
        by_cases h5:64<nm.size
        .have A:=zhd (show(2:Int)=r from by have h:=A.o;rw[if_pos (.inl h5)]at h;exact h)
         have q:decide ((64:Int)<(nm.size:Int))=true:=zno (by omega);go_wp2_with fail
         all_goals
          go_ret;exact⟨by rw[<-A.o];rfl,C.o⟩
        .have q:decide ((64:Int)<(nm.size:Int))=false:=znd (by omega)
         by_cases h6:128<tx.size
         .have A:=zhd (show(2:Int)=r from by have h:=A.o;rw[if_pos (.inr h6)]at h;exact h)
          have n:decide ((128:Int)<(tx.size:Int))=true:=zno (by omega);go_wp2_with fail
          all_goals
           go_ret;exact⟨by rw[<-A.o];rfl,C.o⟩
         .have n:decide ((128:Int)<(tx.size:Int))=false:=znd (by omega)
          have A:=zhd (show(if(hN=false/\nm.size≠0)\/(hT=false/\tx.size≠0)then 8 else if hV=false/\vk≠0 then 8 else cl)=r from by
           have h:=A.o;rw[if_neg (fun h=>h.elim h5 h6)]at h;exact h)
          go_upto_region 10 with(fail);clear q n h5 h6 hd;go_cut [73] (fun v73 wx=>v73= .bool (decide ((hN=false/\nm.size≠0)\/(hT=false/\tx.size≠0)))/\wx=wc)
          case first=>
           have d:decide ((hN=false/\nm.size≠0)\/(hT=false/\tx.size≠0))=((!hN&& !nm.toList.isEmpty)||(!hT&& !tx.toList.isEmpty)):=by
            rw[ybO,ybO];by_cases P:nm.size=0<;>by_cases O:tx.size=0<;>cases hN<;>cases hT<;>simp[P,O]
           obtain⟨T,J⟩:∃z,nm.toList.isEmpty=z:=⟨_,rfl⟩;obtain⟨S,I⟩:∃z,tx.toList.isEmpty=z:=⟨_,rfl⟩;rw[J,I]at d;have Y:=zhd d;clear d;cases hN<;>cases hT<;>cases T<;>cases S
           all_goals
            go_wp2_with fail;refine(HN.o _).mono ?_;rintro e H ⟨rfl,D⟩;subst D;go_wp2_with fail
            try(refine(HT.o _).mono ?_;rintro e H ⟨rfl,D⟩;subst D;go_wp2_with fail)
            go_meet
            case rel=>exact⟨by rw[Y.o];rfl,rfl⟩
          case rest=>
           obtain⟨rfl,rfl⟩:=hcut;cases hd2:decide ((hN=false/\nm.size≠0)\/(hT=false/\tx.size≠0))with
           |true=>
            have A:=zhd (show(8:Int)=r from by
             have h:=A.o;rw[if_pos (znx hd2)]at h;exact h)
            go_wp2_with fail
            all_goals
             go_ret;exact⟨by rw[<-A.o];rfl,C.o⟩
           |false=>
            have A:=zhd (show(if hV=false/\vk≠0 then 8 else cl)=r from by
             have h:=A.o;rw[if_neg (zny hd2)]at h;exact h)
            have CH:=zhd (Z.o _ C.o);cases hV with
            |true=>
             have A:=zhd (show cl=r from by have h:=A.o;rw[if_neg (fun h=>by cases h.1)]at h;exact h);go_wp2_with fail;refine(V.o _).mono ?_;rintro e H ⟨rfl,D⟩;subst D;go_wp2_with fail;refine CH.o.mono ?_;rintro e H ⟨rfl,E⟩;have C:=zhd (C.o.trans (E.mono C.o.size));clear E;go_wp2_with fail
             all_goals
              go_ret;exact⟨by rw[<-A.o];rfl,C.o⟩
            |false=>
             by_cases hv:vk=0
             .subst hv
              have A:=zhd (show cl=r from by have h:=A.o;rw[if_neg (fun h=>h.2 rfl)]at h;exact h);go_wp2_with fail;refine(V.o _).mono ?_;rintro e H ⟨rfl,D⟩;subst D;go_wp2_with fail;refine CH.o.mono ?_;rintro e H ⟨rfl,E⟩;have C:=zhd (C.o.trans (E.mono C.o.size));clear E;go_wp2_with fail
              all_goals
               go_ret;exact⟨by rw[<-A.o];rfl,C.o⟩
             .have x:(vk !=0)=true:=by simpa using hv
              have X:=zhd (show(8:Int)=r from by have h:=A.o;rw[if_pos ⟨rfl,hv⟩]at h;exact h);go_wp2_with fail;refine(V.o _).mono ?_;rintro e H ⟨rfl,D⟩;subst D;go_wp2_with fail
              all_goals
               go_ret;exact⟨by rw[<-X.o];rfl,C.o⟩
 .have A:=zhd (show(9:Int)=r by rw[(ydo hk).1]at hr;exact hr)
  have he:(evN k).toList.isEmpty=true:=by rw[(ydo hk).2.1,ybO];rfl
  clear hr hk;generalize evN k=nk at*;go_wp2_with fail
  all_goals
   go_ret;exact⟨by rw[<-A.o];rfl,C.o⟩
end Go.Proofs.YtpagmlndgblhhaaGreatDoor
