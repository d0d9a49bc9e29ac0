/- Parts of the proof: what the functions and the plain laws give that later parts lean on. Conditions: none beyond those that each theorem names. -/
import Derived.Test.YtpagmlndgblhhaaGreatDoorR22
set_option maxRecDepth 100000
set_option maxHeartbeats 8000000
namespace Go.Proofs.YtpagmlndgblhhaaGreatDoor
open Go.RowKit Go.Own Go.Own.MapTy Go.Va Go.Sort
open Go.Own.Cells (sz enc)
theorem ybC (s:ByteArray):s.toList.isEmpty=decide (s.size=0):=by
 rw[zml];by_cases h:s.size=0
 ·rw[zno h,List.isEmpty_iff]
  exact List.length_eq_zero_iff.1 (by simpa using h)
 ·rw[znd h,List.isEmpty_eq_false_iff]
  intro e;exact h (by have:=congrArg List.length e;simpa using this)
theorem yam (id t k a b:Int)(nm tx:ByteArray)(vk vn:Int)(vs:ByteArray)(la:Option Addr)(ln lc:Nat)(w:World)(r:Bool)(hr:yaS k=r):
  Calls Tryz.prog 15 #[.agg #[.int .i64 id,.int .i64 t,.int .i64 k,.int .i64 a,.int .i64 b,.string nm,.string tx,.int .i64 vk,.int .i64 vn,.string vs,.slice la ln lc]] w (fun e w'=>e= .returned (.bool r)∧Below w.heap.size w w'):=by
 subst hr;by_cases h8:k=8
 ·subst h8
  go_enter Tryz.func15,Tryz.ntmps15;go_wp2_with fail;go_ret;exact⟨rfl,zal⟩
 ·have n8:(k==8)=false:=by rw[zna];exact h8
  by_cases h9:k=9
  ·subst h9
   go_enter Tryz.func15,Tryz.ntmps15;go_wp2_with fail;go_ret;exact⟨rfl,zal⟩
  ·have n9:(k==9)=false:=by rw[zna];exact h9
   by_cases h10:k=10
   ·subst h10
    go_enter Tryz.func15,Tryz.ntmps15;go_wp2_with fail;go_ret;exact⟨rfl,zal⟩
   ·have n10:(k==10)=false:=by rw[zna];exact h10
    by_cases h12:k=12
    ·subst h12
     go_enter Tryz.func15,Tryz.ntmps15;go_wp2_with fail;go_ret;exact⟨rfl,zal⟩
    ·have n12:(k==12)=false:=by rw[zna];exact h12
     by_cases h14:k=14
     ·subst h14
      go_enter Tryz.func15,Tryz.ntmps15;go_wp2_with fail;go_ret;exact⟨rfl,zal⟩
     ·have n14:(k==14)=false:=by rw[zna];exact h14
      by_cases h15:k=15
      ·subst h15
       go_enter Tryz.func15,Tryz.ntmps15;go_wp2_with fail;go_ret;exact⟨rfl,zal⟩
      ·have n15:(k==15)=false:=by rw[zna];exact h15
       by_cases h19:k=19
       ·subst h19
        go_enter Tryz.func15,Tryz.ntmps15;go_wp2_with fail;go_ret;exact⟨rfl,zal⟩
       ·have n19:(k==19)=false:=by rw[zna];exact h19
        by_cases h20:k=20
        ·subst h20
         go_enter Tryz.func15,Tryz.ntmps15;go_wp2_with fail;go_ret;exact⟨rfl,zal⟩
        ·have n20:(k==20)=false:=by rw[zna];exact h20
         have he:(k==1)=yaS k:=by
          unfold yaS;by_cases h1:k=1
          ·rw[h1];decide
          ·rw[znd (by omega),zna];exact h1
         have HE:=zhd he;clear h8 h9 h10 h12 h14 h15 h19 h20 he;go_enter Tryz.func15,Tryz.ntmps15;go_wp2_with fail;go_ret;exact⟨by rw[←HE.o];rfl,zal⟩
theorem yau {N:Nat}(id t k a b:Int)(nm tx:ByteArray)(vk vn:Int)(vs:ByteArray)(la:Option Addr)(ln lc:Nat)(w:World)(G:Gl Tryz.prog N w)(cl:Int)(CH:∀W,Below w.heap.size w W→Calls Tryz.prog 55 #[.agg #[.int .i64 vk,.int .i64 vn,.string vs,.slice la ln lc]] W (fun e w'=>e= .returned (.int .i64 cl)∧Below W.heap.size W w'))(r:Int)(hr:ymP k id t a b nm.size tx.size vk cl=r):
  Calls Tryz.prog 16 #[.agg #[.int .i64 id,.int .i64 t,.int .i64 k,.int .i64 a,.int .i64 b,.string nm,.string tx,.int .i64 vk,.int .i64 vn,.string vs,.slice la ln lc]] w (fun e w'=>e= .returned (.int .i64 r)∧Below w.heap.size w w'):=by
 obtain⟨w0,hw0⟩:∃w0,w0=w.alloc (.cells #[.int .i64 id,.int .i64 t,.int .i64 k,.int .i64 a,.int .i64 b,.string nm,.string tx,.int .i64 vk,.int .i64 vn,.string vs,.slice la ln lc] 40):=⟨_,rfl⟩;have B0:=zba hw0;have hB:=zha hw0;have r2:=zca hB 2 rfl;have EN:=zhd (yjZ k w0 (G.below B0));have lr:w.heap.size<w0.heap.size:=zlt hB;have H0:=zh2 B0 hB;have HCH:=zhd CH;clear B0 hB CH G;unfold ymP at hr;go_enter Tryz.func16,Tryz.ntmps16;go_wp2_with fail;rw[←hw0];clear hw0;refine EN.o.mono ?_;rintro e w5 ⟨rfl,hB5⟩;have hb5:=(hB5.block w.heap.size lr).trans H0.o.2;have HB:=zhd (H0.o.1.trans (hB5.mono H0.o.1.size));have q0:=zca hb5 0 rfl;have q1:=zca hb5 1 rfl;have q3:=zca hb5 3 rfl;have q4:=zca hb5 4 rfl;have q5:=zca hb5 5 rfl;have q6:=zca hb5 6 rfl;have q7:=zca hb5 7 rfl;have q8:=zca hb5 8 rfl;have q9:=zca hb5 9 rfl;have q10:=zca hb5 10 rfl;have l5:w.heap.size<w5.heap.size:=zlt hb5;clear hb5 hB5 r2 lr;by_cases hk:1≤k∧k≤21
 ·obtain⟨e1,e2,e3⟩:=yeL hk
  rw[e1]at hr;dsimp only at hr;have hne:(evN k).toList.isEmpty=false:=by rw[ybC];exact znd e2
  have HA:=zhd (fun W=>ydV (evF k) 65 W _ rfl);have HBB:=zhd (fun W=>ydV (evF k) 66 W _ rfl);have HN:=zhd (fun W=>ydV (evF k) 78 W _ rfl);have HT:=zhd (fun W=>ydV (evF k) 84 W _ rfl);have HV:=zhd (fun W=>ydV (evF k) 86 W _ rfl);generalize hasF (evF k) 65=hA at*;generalize hasF (evF k) 66=hBb at*;generalize hasF (evF k) 78=hN at*;generalize hasF (evF k) 84=hT at*;generalize hasF (evF k) 86=hV at*;generalize evF k=fd at*;generalize evN k=nk at*;clear e1 e2 e3 hk;by_cases h1:id<1
  ·rw[if_pos (.inl h1)]at hr
   have HR:=zhd hr;have d1:decide (id<1)=true:=zno h1;clear hr;go_wp2_with fail
   all_goals
    go_ret;exact⟨by rw[←HR.o];rfl,HB.o⟩
  ·by_cases h2:1048576<id
   ·rw[if_pos (.inr (.inl h2))]at hr
    have HR:=zhd hr;have d1:decide (id<1)=false:=znd h1;have d2:decide (1048576<id)=true:=zno h2;clear hr;go_wp2_with fail
    all_goals
     go_ret;exact⟨by rw[←HR.o];rfl,HB.o⟩
   ·by_cases h3:t<0
    ·rw[if_pos (.inr (.inr (.inl h3)))]at hr
     have HR:=zhd hr;have d1:decide (id<1)=false:=znd h1;have d2:decide (1048576<id)=false:=znd h2;have d3:decide (t<0)=true:=zno h3;clear hr;go_wp2_with fail
     all_goals
      go_ret;exact⟨by rw[←HR.o];rfl,HB.o⟩
    ·by_cases h4:4611686018427387903<t
     ·rw[if_pos (.inr (.inr (.inr h4)))]at hr
      have HR:=zhd hr;have d1:decide (id<1)=false:=znd h1;have d2:decide (1048576<id)=false:=znd h2;have d3:decide (t<0)=false:=znd h3;have d4:decide (4611686018427387903<t)=true:=zno h4;clear hr;go_wp2_with fail
      all_goals
       go_ret;exact⟨by rw[←HR.o];rfl,HB.o⟩
     ·rw[if_neg (fun h=>h.elim h1 (fun h=>h.elim h2 (fun h=>h.elim h3 h4)))]at hr
      have HR:=zhd hr;have d1:decide (id<1)=false:=znd h1;have d2:decide (1048576<id)=false:=znd h2;have d3:decide (t<0)=false:=znd h3;have d4:decide (4611686018427387903<t)=false:=znd h4;clear hr;go_upto_region 6 with(fail);clear h1 h2 h3 h4 d1 d2 d3 d4;go_cut [33] (fun v33 wx=>v33= .bool (decide (a<0∨b<0∨(hA=false∧a≠0)∨(hBb=false∧b≠0)))∧wx=w5)
      case first=>
       by_cases h1:a<0
       ·have d:=zhd (zno (p:=a<0∨b<0∨(hA=false∧a≠0)∨(hBb=false∧b≠0)) (.inl h1))
        go_wp2_with fail;go_meet
        case rel=>exact⟨by rw[d.o],rfl⟩
       ·by_cases h2:b<0
        ·have d:=zhd (zno (p:=a<0∨b<0∨(hA=false∧a≠0)∨(hBb=false∧b≠0)) (.inr (.inl h2)))
         go_wp2_with fail;go_meet
         case rel=>exact⟨by rw[d.o],rfl⟩
        ·have ha:(a !=0)=decide (a≠0):=by by_cases h:a=0<;>simp[h]
         have hb:(b !=0)=decide (b≠0):=by by_cases h:b=0<;>simp[h]
         have d:decide (a<0∨b<0∨(hA=false∧a≠0)∨(hBb=false∧b≠0))=((!hA&&(a !=0))||(!hBb&&(b !=0))):=by
          rw[ha,hb];cases hA<;>cases hBb<;>simp[h1,h2]
         obtain⟨za,hza⟩:∃z,(a !=0)=z:=⟨_,rfl⟩;obtain⟨zb,hzb⟩:∃z,(b !=0)=z:=⟨_,rfl⟩;rw[hza,hzb]at d;have HD:=zhd d;have n1:decide (a<0)=false:=znd h1;have n2:decide (b<0)=false:=znd h2;clear d ha hb h1 h2;cases hA<;>cases hBb<;>cases za<;>cases zb
         all_goals
          go_wp2_with fail;refine(HA.o _).mono ?_;rintro e w9 ⟨rfl,hw⟩;subst hw;go_wp2_with fail
          try(refine(HBB.o _).mono ?_;rintro e w9 ⟨rfl,hw⟩;subst hw;go_wp2_with fail)
          go_meet
          case rel=>exact⟨by rw[HD.o];rfl,rfl⟩
      case rest=>
       obtain⟨rfl,rfl⟩:=hcut;cases hd:decide (a<0∨b<0∨(hA=false∧a≠0)∨(hBb=false∧b≠0))with
       |true=>
        have HR:=zhd (show(1:Int)=r from by
         have h:=HR.o;rw[if_pos (znx hd)]at h;exact h)
        go_wp2_with fail
        all_goals
         go_ret;exact⟨by rw[←HR.o];rfl,HB.o⟩
       |false=>
        have HR:=zhd (show(if 64<nm.size∨128<tx.size then 2 else if(hN=false∧nm.size≠0)∨(hT=false∧tx.size≠0)then 8 else if hV=false∧vk≠0 then 8 else cl)=r from by
         have h:=HR.o;rw[if_neg (zny hd)]at h;exact h)
        by_cases h5:64<nm.size
        ·have HR:=zhd (show(2:Int)=r from by have h:=HR.o;rw[if_pos (.inl h5)]at h;exact h)
         have d5:decide ((64:Int)<(nm.size:Int))=true:=zno (by omega);go_wp2_with fail
         all_goals
          go_ret;exact⟨by rw[←HR.o];rfl,HB.o⟩
        ·have d5:decide ((64:Int)<(nm.size:Int))=false:=znd (by omega)
         by_cases h6:128<tx.size
         ·have HR:=zhd (show(2:Int)=r from by have h:=HR.o;rw[if_pos (.inr h6)]at h;exact h)
          have d6:decide ((128:Int)<(tx.size:Int))=true:=zno (by omega);go_wp2_with fail
          all_goals
           go_ret;exact⟨by rw[←HR.o];rfl,HB.o⟩
         ·have d6:decide ((128:Int)<(tx.size:Int))=false:=znd (by omega)
          have HR:=zhd (show(if(hN=false∧nm.size≠0)∨(hT=false∧tx.size≠0)then 8 else if hV=false∧vk≠0 then 8 else cl)=r from by
           have h:=HR.o;rw[if_neg (fun h=>h.elim h5 h6)]at h;exact h)
          go_upto_region 10 with(fail);clear d5 d6 h5 h6 hd;go_cut [73] (fun v73 wx=>v73= .bool (decide ((hN=false∧nm.size≠0)∨(hT=false∧tx.size≠0)))∧wx=wc)
          case first=>
           have d:decide ((hN=false∧nm.size≠0)∨(hT=false∧tx.size≠0))=((!hN&& !nm.toList.isEmpty)||(!hT&& !tx.toList.isEmpty)):=by
            rw[ybC,ybC];by_cases ha:nm.size=0<;>by_cases hb:tx.size=0<;>cases hN<;>cases hT<;>simp[ha,hb]
           obtain⟨za,hza⟩:∃z,nm.toList.isEmpty=z:=⟨_,rfl⟩;obtain⟨zb,hzb⟩:∃z,tx.toList.isEmpty=z:=⟨_,rfl⟩;rw[hza,hzb]at d;have HD:=zhd d;clear d;cases hN<;>cases hT<;>cases za<;>cases zb
           all_goals
            go_wp2_with fail;refine(HN.o _).mono ?_;rintro e w9 ⟨rfl,hw⟩;subst hw;go_wp2_with fail
            try(refine(HT.o _).mono ?_;rintro e w9 ⟨rfl,hw⟩;subst hw;go_wp2_with fail)
            go_meet
            case rel=>exact⟨by rw[HD.o];rfl,rfl⟩
          case rest=>
           obtain⟨rfl,rfl⟩:=hcut;cases hd2:decide ((hN=false∧nm.size≠0)∨(hT=false∧tx.size≠0))with
           |true=>
            have HR:=zhd (show(8:Int)=r from by
             have h:=HR.o;rw[if_pos (znx hd2)]at h;exact h)
            go_wp2_with fail
            all_goals
             go_ret;exact⟨by rw[←HR.o];rfl,HB.o⟩
           |false=>
            have HR:=zhd (show(if hV=false∧vk≠0 then 8 else cl)=r from by
             have h:=HR.o;rw[if_neg (zny hd2)]at h;exact h)
            have CH:=zhd (HCH.o _ HB.o);cases hV with
            |true=>
             have HR:=zhd (show cl=r from by have h:=HR.o;rw[if_neg (fun h=>by cases h.1)]at h;exact h);go_wp2_with fail;refine(HV.o _).mono ?_;rintro e w9 ⟨rfl,hw⟩;subst hw;go_wp2_with fail;refine CH.o.mono ?_;rintro e w9 ⟨rfl,hB9⟩;have HB:=zhd (HB.o.trans (hB9.mono HB.o.size));clear hB9;go_wp2_with fail
             all_goals
              go_ret;exact⟨by rw[←HR.o];rfl,HB.o⟩
            |false=>
             by_cases hv:vk=0
             ·subst hv
              have HR:=zhd (show cl=r from by have h:=HR.o;rw[if_neg (fun h=>h.2 rfl)]at h;exact h);go_wp2_with fail;refine(HV.o _).mono ?_;rintro e w9 ⟨rfl,hw⟩;subst hw;go_wp2_with fail;refine CH.o.mono ?_;rintro e w9 ⟨rfl,hB9⟩;have HB:=zhd (HB.o.trans (hB9.mono HB.o.size));clear hB9;go_wp2_with fail
              all_goals
               go_ret;exact⟨by rw[←HR.o];rfl,HB.o⟩
             ·have hvb:(vk !=0)=true:=by simpa using hv
              have HR8:=zhd (show(8:Int)=r from by have h:=HR.o;rw[if_pos ⟨rfl,hv⟩]at h;exact h);go_wp2_with fail;refine(HV.o _).mono ?_;rintro e w9 ⟨rfl,hw⟩;subst hw;go_wp2_with fail
              all_goals
               go_ret;exact⟨by rw[←HR8.o];rfl,HB.o⟩
 ·have HR:=zhd (show(9:Int)=r by rw[(ycY hk).1]at hr;exact hr)
  have he:(evN k).toList.isEmpty=true:=by rw[(ycY hk).2.1,ybC];rfl
  clear hr hk;generalize evN k=nk at*;go_wp2_with fail
  all_goals
   go_ret;exact⟨by rw[←HR.o];rfl,HB.o⟩
end Go.Proofs.YtpagmlndgblhhaaGreatDoor
