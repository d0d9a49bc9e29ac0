/- Parts of the proof: what the functions and the plain laws give that later parts lean on. Conditions: none beyond those that each theorem names. -/
import Derived.Test.YtpagmlndgblhhaaGreatDoorT19
set_option maxRecDepth 100000
set_option maxHeartbeats 8000000
namespace Go.Proofs.YtpagmlndgblhhaaGreatDoor
open Go.RowKit Go.Own Go.Own.MapTy Go.Va Go.Sort
open Go.Own.Cells (sz enc)
theorem ybM (s:ByteArray):s.toList.isEmpty=decide (s.size=0):=by
 rw[zml];by_cases h:s.size=0
 .rw[zno h,List.isEmpty_iff]
  exact List.length_eq_zero_iff.1 (by simpa using h)
 .rw[znd h,List.isEmpty_eq_false_iff]
  intro e;exact h (by have:=congrArg List.length e;simpa using this)
theorem yam (id t k a b:Int)(nm tx:ByteArray)(vk vn:Int)(vs:ByteArray)(la:Option Addr)(ln lc:Nat)(w:World)(r:Bool)(hr:yaI k=r):
  Calls Tryz.prog 15 #[.agg #[id,t,k,a,b,nm,tx,vk,vn,vs,.slice la ln lc]] w (fun e w'=>e= .returned (.bool r)/\Below w w w'):=by
 subst hr;by_cases h8:k=8
 .subst h8
  go_in;go_wp2;go_ret;exact⟨rfl,zal⟩
 .have J:(k==8)=false:=by rw[zna];exact h8
  by_cases h9:k=9
  .subst h9
   go_in;go_wp2;go_ret;exact⟨rfl,zal⟩
  .have I:(k==9)=false:=by rw[zna];exact h9
   by_cases h10:k=10
   .subst h10
    go_in;go_wp2;go_ret;exact⟨rfl,zal⟩
   .have G:(k==10)=false:=by rw[zna];exact h10
    by_cases h12:k=12
    .subst h12
     go_in;go_wp2;go_ret;exact⟨rfl,zal⟩
    .have F:(k==12)=false:=by rw[zna];exact h12
     by_cases h14:k=14
     .subst h14
      go_in;go_wp2;go_ret;exact⟨rfl,zal⟩
     .have E:(k==14)=false:=by rw[zna];exact h14
      by_cases h15:k=15
      .subst h15
       go_in;go_wp2;go_ret;exact⟨rfl,zal⟩
      .have D:(k==15)=false:=by rw[zna];exact h15
       by_cases h19:k=19
       .subst h19
        go_in;go_wp2;go_ret;exact⟨rfl,zal⟩
       .have C:(k==19)=false:=by rw[zna];exact h19
        by_cases h20:k=20
        .subst h20
         go_in;go_wp2;go_ret;exact⟨rfl,zal⟩
        .have B:(k==20)=false:=by rw[zna];exact h20
         have A:(k==1)=yaI k:=by
          unfold yaI;by_cases h1:k=1
          .rw[h1];decide
          .rw[znd (by omega),zna];exact h1
         have H:=zhd A;clear h8 h9 h10 h12 h14 h15 h19 h20 A;go_in;go_wp2;go_ret;exact⟨by rw[<-H.o];rfl,zal⟩
theorem yaw {N:Nat}(id t k a b:Int)(nm tx:ByteArray)(vk vn:Int)(vs:ByteArray)(la:Option Addr)(ln lc:Nat)(w:World)(G:Gl Tryz.prog N w)(cl:Int)(CH:∀W,Below w w W->Calls Tryz.prog 55 #[.agg #[vk,vn,vs,.slice la ln lc]] W (fun e w'=>e= .returned (.int .i64 cl)/\Below W W w'))(r:Int)(hr:ynN k id t a b nm.size tx.size vk cl=r):
  Calls Tryz.prog 16 #[.agg #[id,t,k,a,b,nm,tx,vk,vn,vs,.slice la ln lc]] w (fun e w'=>e= .returned (.int .i64 r)/\Below w w w'):=by
 obtain⟨M,F⟩:∃M,M=w.alloc (.cells #[id,t,k,a,b,nm,tx,vk,vn,vs,.slice la ln lc] 40):=⟨_,rfl⟩;have g:=zba F;have Q:=zha F;have u:=zca Q 2 rfl;have EN:=zhd (ykN k M (G.below g));have j:w<M.heap.size:=zlt Q;have f:=zh2 g Q;have Z:=zhd CH;clear g Q CH G;unfold ynN at hr;go_in;go_wp2_with fail;rw[<-F];clear F;refine EN.o.mono ?_;rintro e i ⟨rfl,K⟩;have B:=(K.block w j).trans f.o.2;have C:=zhd (f.o.1.trans (K.mono f.o.1.size));have q0:=zca B 0 rfl;have q1:=zca B 1 rfl;have q3:=zca B 3 rfl;have q4:=zca B 4 rfl;have q5:=zca B 5 rfl;have q6:=zca B 6 rfl;have q7:=zca B 7 rfl;have q8:=zca B 8 rfl;have q9:=zca B 9 rfl;have v:=zca B 10 rfl;have l5:w<i.heap.size:=zlt B;clear B K u j;by_cases hk:1<=k/\k<=21
 .obtain⟨m,l,e3⟩:=yfb hk
  rw[m]at hr;dsimp only at hr;have y:(evN k).toList.isEmpty=false:=by rw[ybM];exact znd l
  have HA:=zhd (fun W=>yen (evF k) 65 W _ rfl);have c:=zhd (fun W=>yen (evF k) 66 W _ rfl);have HN:=zhd (fun W=>yen (evF k) 78 W _ rfl);have HT:=zhd (fun W=>yen (evF k) 84 W _ rfl);have V:=zhd (fun W=>yen (evF k) 86 W _ rfl);generalize hasF (evF k) 65=hA at*;generalize hasF (evF k) 66=hBb at*;generalize hasF (evF k) 78=hN at*;generalize hasF (evF k) 84=hT at*;generalize hasF (evF k) 86=hV at*;generalize evF k=fd at*;generalize evN k=nk at*;clear m l e3 hk;by_cases h1:id<1
  .rw[if_pos (.inl h1)]at hr
   have A:=zhd hr;have L:decide (id<1)=true:=zno h1;clear hr;go_wp2_with fail
   all_goals
    go_ret;exact⟨by rw[<-A.o];rfl,C.o⟩
  .by_cases h2:1048576<id
   .rw[if_pos (.inr (.inl h2))]at hr
    have A:=zhd hr;have L:decide (id<1)=false:=znd h1;have R:decide (1048576<id)=true:=zno h2;clear hr;go_wp2_with fail
    all_goals
     go_ret;exact⟨by rw[<-A.o];rfl,C.o⟩
   .by_cases h3:t<0
    .rw[if_pos (.inr (.inr (.inl h3)))]at hr
     have A:=zhd hr;have L:decide (id<1)=false:=znd h1;have R:decide (1048576<id)=false:=znd h2;have U:decide (t<0)=true:=zno h3;clear hr;go_wp2_with fail
     all_goals
      go_ret;exact⟨by rw[<-A.o];rfl,C.o⟩
    .by_cases h4:4611686018427387903<t
     .rw[if_pos (.inr (.inr (.inr h4)))]at hr
      have A:=zhd hr;have L:decide (id<1)=false:=znd h1;have R:decide (1048576<id)=false:=znd h2;have U:decide (t<0)=false:=znd h3;have s:decide (4611686018427387903<t)=true:=zno h4;clear hr;go_wp2_with fail
      all_goals
       go_ret;exact⟨by rw[<-A.o];rfl,C.o⟩
     .rw[if_neg (fun h=>h.elim h1 (fun h=>h.elim h2 (fun h=>h.elim h3 h4)))]at hr
      have A:=zhd hr;have L:decide (id<1)=false:=znd h1;have R:decide (1048576<id)=false:=znd h2;have U:decide (t<0)=false:=znd h3;have s:decide (4611686018427387903<t)=false:=znd h4;clear hr;go_upto_region 6 with(fail);clear h1 h2 h3 h4 L R U s;go_cut [33] (fun v33 wx=>v33= .bool (decide (a<0\/b<0\/(hA=false/\a≠0)\/(hBb=false/\b≠0)))/\wx=i)
      case first=>
       by_cases h1:a<0
       .have d:=zhd (zno (p:=a<0\/b<0\/(hA=false/\a≠0)\/(hBb=false/\b≠0)) (.inl h1))
        go_wp2_with fail;go_meet
        case rel=>exact⟨by rw[d.o],rfl⟩
       .by_cases h2:b<0
        .have d:=zhd (zno (p:=a<0\/b<0\/(hA=false/\a≠0)\/(hBb=false/\b≠0)) (.inr (.inl h2)))
         go_wp2_with fail;go_meet
         case rel=>exact⟨by rw[d.o],rfl⟩
        .have P:(a !=0)=decide (a≠0):=by by_cases h:a=0<;>simp[h]
         have O:(b !=0)=decide (b≠0):=by by_cases h:b=0<;>simp[h]
         have d:decide (a<0\/b<0\/(hA=false/\a≠0)\/(hBb=false/\b≠0))=((!hA&&(a !=0))||(!hBb&&(b !=0))):=by
          rw[P,O];cases hA<;>cases hBb<;>simp[h1,h2]
         obtain⟨T,J⟩:∃z,(a !=0)=z:=⟨_,rfl⟩;obtain⟨S,I⟩:∃z,(b !=0)=z:=⟨_,rfl⟩;rw[J,I]at d;have Y:=zhd d;have n1:decide (a<0)=false:=znd h1;have n2:decide (b<0)=false:=znd h2;clear d P O h1 h2;cases hA<;>cases hBb<;>cases T<;>cases S
         all_goals
          go_wp2_with fail;refine(HA.o _).mono ?_;rintro e H ⟨rfl,D⟩;subst D;go_wp2_with fail
          try(refine(c.o _).mono ?_;rintro e H ⟨rfl,D⟩;subst D;go_wp2_with fail)
          go_meet
          case rel=>exact⟨by rw[Y.o];rfl,rfl⟩
      case rest=>
       obtain⟨rfl,rfl⟩:=hcut;cases hd:decide (a<0\/b<0\/(hA=false/\a≠0)\/(hBb=false/\b≠0))with
       |true=>
        have A:=zhd (show(1:Int)=r from by
         have h:=A.o;rw[if_pos (znx hd)]at h;exact h)
        go_wp2_with fail
        all_goals
         go_ret;exact⟨by rw[<-A.o];rfl,C.o⟩
       |false=>
        have A:=zhd (show(if 64<nm.size\/128<tx.size then 2 else if(hN=false/\nm.size≠0)\/(hT=false/\tx.size≠0)then 8 else if hV=false/\vk≠0 then 8 else cl)=r from by
         have h:=A.o;rw[if_neg (zny hd)]at h;exact h)
        by_cases h5:64<nm.size
        .have A:=zhd (show(2:Int)=r from by have h:=A.o;rw[if_pos (.inl h5)]at h;exact h)
         have q:decide ((64:Int)<(nm.size:Int))=true:=zno (by omega);go_wp2_with fail
         all_goals
          go_ret;exact⟨by rw[<-A.o];rfl,C.o⟩
        .have q:decide ((64:Int)<(nm.size:Int))=false:=znd (by omega)
         by_cases h6:128<tx.size
         .have A:=zhd (show(2:Int)=r from by have h:=A.o;rw[if_pos (.inr h6)]at h;exact h)
          have n:decide ((128:Int)<(tx.size:Int))=true:=zno (by omega);go_wp2_with fail
          all_goals
           go_ret;exact⟨by rw[<-A.o];rfl,C.o⟩
         .have n:decide ((128:Int)<(tx.size:Int))=false:=znd (by omega)
          have A:=zhd (show(if(hN=false/\nm.size≠0)\/(hT=false/\tx.size≠0)then 8 else if hV=false/\vk≠0 then 8 else cl)=r from by
           have h:=A.o;rw[if_neg (fun h=>h.elim h5 h6)]at h;exact h)
          go_upto_region 10 with(fail);clear q n h5 h6 hd;go_cut [73] (fun v73 wx=>v73= .bool (decide ((hN=false/\nm.size≠0)\/(hT=false/\tx.size≠0)))/\wx=wc)
          case first=>
           have d:decide ((hN=false/\nm.size≠0)\/(hT=false/\tx.size≠0))=((!hN&& !nm.toList.isEmpty)||(!hT&& !tx.toList.isEmpty)):=by
            rw[ybM,ybM];by_cases P:nm.size=0<;>by_cases O:tx.size=0<;>cases hN<;>cases hT<;>simp[P,O]
           obtain⟨T,J⟩:∃z,nm.toList.isEmpty=z:=⟨_,rfl⟩;obtain⟨S,I⟩:∃z,tx.toList.isEmpty=z:=⟨_,rfl⟩;rw[J,I]at d;have Y:=zhd d;clear d;cases hN<;>cases hT<;>cases T<;>cases S
           all_goals
            go_wp2_with fail;refine(HN.o _).mono ?_;rintro e H ⟨rfl,D⟩;subst D;go_wp2_with fail
            try(refine(HT.o _).mono ?_;rintro e H ⟨rfl,D⟩;subst D;go_wp2_with fail)
            go_meet
            case rel=>exact⟨by rw[Y.o];rfl,rfl⟩
          case rest=>
           obtain⟨rfl,rfl⟩:=hcut;cases hd2:decide ((hN=false/\nm.size≠0)\/(hT=false/\tx.size≠0))with
           |true=>
            have A:=zhd (show(8:Int)=r from by
             have h:=A.o;rw[if_pos (znx hd2)]at h;exact h)
            go_wp2_with fail
            all_goals
             go_ret;exact⟨by rw[<-A.o];rfl,C.o⟩
           |false=>
            have A:=zhd (show(if hV=false/\vk≠0 then 8 else cl)=r from by
             have h:=A.o;rw[if_neg (zny hd2)]at h;exact h)
            have CH:=zhd (Z.o _ C.o);cases hV with
            |true=>
             have A:=zhd (show cl=r from by have h:=A.o;rw[if_neg (fun h=>by cases h.1)]at h;exact h);go_wp2_with fail;refine(V.o _).mono ?_;rintro e H ⟨rfl,D⟩;subst D;go_wp2_with fail;refine CH.o.mono ?_;rintro e H ⟨rfl,E⟩;have C:=zhd (C.o.trans (E.mono C.o.size));clear E;go_wp2_with fail
             all_goals
              go_ret;exact⟨by rw[<-A.o];rfl,C.o⟩
            |false=>
             by_cases hv:vk=0
             .subst hv
              have A:=zhd (show cl=r from by have h:=A.o;rw[if_neg (fun h=>h.2 rfl)]at h;exact h);go_wp2_with fail;refine(V.o _).mono ?_;rintro e H ⟨rfl,D⟩;subst D;go_wp2_with fail;refine CH.o.mono ?_;rintro e H ⟨rfl,E⟩;have C:=zhd (C.o.trans (E.mono C.o.size));clear E;go_wp2_with fail
              all_goals
               go_ret;exact⟨by rw[<-A.o];rfl,C.o⟩
             .have x:(vk !=0)=true:=by simpa using hv
              have X:=zhd (show(8:Int)=r from by have h:=A.o;rw[if_pos ⟨rfl,hv⟩]at h;exact h);go_wp2_with fail;refine(V.o _).mono ?_;rintro e H ⟨rfl,D⟩;subst D;go_wp2_with fail
              all_goals
               go_ret;exact⟨by rw[<-X.o];rfl,C.o⟩
 .have A:=zhd (show(9:Int)=r by rw[(ydk hk).1]at hr;exact hr)
  have he:(evN k).toList.isEmpty=true:=by rw[(ydk hk).2.1,ybM];rfl
  clear hr hk;generalize evN k=nk at*;go_wp2_with fail
  all_goals
   go_ret;exact⟨by rw[<-A.o];rfl,C.o⟩
end Go.Proofs.YtpagmlndgblhhaaGreatDoor
