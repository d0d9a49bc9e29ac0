/- Parts of the proof: what the functions and the plain laws give that later parts lean on. Conditions: none beyond those that each theorem names. -/
import Derived.Test.YtakljipkaoahnaaGreatDoorA27
set_option maxRecDepth 100000
set_option maxHeartbeats 8000000
namespace Go.Proofs.YtakljipkaoahnaaGreatDoor
open Go.RowKit Go.Own Go.Own.MapTy Go.Va Go.Sort
open Go.Own.Cells (sz enc)
set_option maxHeartbeats 80000000 in
theorem read_any {N0:Nat}(s:ByteArray)(w:World)(G:Gl Tryz.prog N0 w)(hs:s.size≤3000)(r:(Int×Int)×List SR)(hr:readS s=r):Calls Tryz.prog 11 #[.string s] w (RDPost w r):=by
 have LN:=zhd (fun w=>lines_any s w (by omega))
 obtain⟨init,last,hl1,hl2,hl3⟩:=linesB_cases s
 have hsz:∀x∈linesB s,x.size≤3000:=fun x hx=>by
  obtain⟨y,hy,rfl⟩:=List.mem_map.1 hx
  rw[mkL_size]
  exact cutL_sizes _ _ 3000 (by simp;exact hs) y hy
 have hln:(linesB s).length≤3001:=by
  have:=cutL_len s.data.toList []
  unfold linesB
  rw[List.length_map]
  simp at this
  omega
 unfold readS at hr
 rw[hl2,hl3]at hr
 have hlen:(linesB s).length=init.length+1:=by rw[hl1];simp
 rw[hlen]at hr hln
 have HGL:=zh4 G hsz hl1 hr
 have e1:¬(65536:Int)<s.size:=by omega
 clear G hsz hl2 hl3 hr
 generalize linesB s=B at*
 go_enter Tryz.func11,Tryz.ntmps11
 go_wp2_with fail
 refine(LN.out _).mono ?_
 rintro e w3 ⟨v4,rfl,H3⟩
 have b1:=(H3.out.2.2.block w.heap.size (by simp)).trans (heap_alloc_new w (.cells #[.int .i64 0,.int .i64 0] 30))
 have H3b:=zh4 ((Below.refl w.heap.size w).alloc (Nat.le_refl _) (.cells #[.int .i64 0,.int .i64 0] 30)|>.trans (H3.out.2.2.mono (by simp))) b1 H3.out.1 (fun g hg=>by have:=H3.out.2.1 g hg;simp at this;exact(show w.heap.size+1≤g from this))
 have f0:=zfr b1 0
 have f1:=zfr b1 1
 have c0:=zca b1 0 rfl
 have c1:=zca b1 1 rfl
 have lf:=zlt b1
 obtain⟨aa,ac,rfl⟩:=H3.out.1.slice
 have hlast:B[init.length]? =some last:=by rw[hl1,List.getElem?_append_right (Nat.le_refl _)];simp
 have hAddr:=H3.out.1.addr hlast
 obtain⟨ag,ao,rfl,agl⟩:=hAddr
 have y0:=row_str H3.out.1 hlast
 obtain⟨n,hn⟩:∃n,init.length=n:=⟨_,rfl⟩
 obtain⟨m,hm⟩:∃m,B.length=m:=⟨_,rfl⟩
 rw[hm]at H3b hlen⊢
 rw[hn]at hlen y0 hln
 have hz0:IntKind.i64.wrap ((m:Int) - 1)=(n:Int):=by
  rw[show((m:Int) - 1)=(n:Int) by omega]
  exact IntWalk.i64_in _ (by omega)
 have hbd:(n:Int)<(m:Int):=by omega
 have hn0:¬(n:Int)<0:=by omega
 have HN:=zh4 hn hm hlen hln
 clear b1 H3 LN hlast hn hm hln hl1
 by_cases hlast:last=⟨#[]⟩
 ·subst hlast
  by_cases h1:m=1
  ·have h1':((m:Int)==1)=true:=by rw[beq_iff_eq];omega
   have hr:=HGL.out.2.2.2
   rw[if_pos (.inl (by have:=HN.out.1;omega))]at hr
   have HR:=zhd hr
   clear hlen h1 hr
   go_wp2_with fail
   exact bodyPost_ret (v:=.tuple #[.slice none 0 0,.agg #[.int .i64 0,.int .i64 8]]) (by simp only[results,Tryz.results11];go_simp) rfl ⟨_,by rw[←HR.out],zhd ⟨by rw[←HR.out];exact SRow.nil _ _,two_sets (H3b.out.1) _ _⟩⟩
  ·have h1':((m:Int)==1)=false:=by rw[beq_eq_false_iff_ne];omega
   have hr:=HGL.out.2.2.2
   rw[if_neg (fun h=>h.elim (fun h=>by have:=HN.out.1;have:=HN.out.2.2.1;omega) (fun h=>h rfl))]at hr
   obtain⟨cR,rR⟩:=cut_to elemS H3b.out.2.2.1 (k:=n) (by have:=HN.out.2.1;have:=HN.out.2.2.1;omega)
   rw[HGL.out.2.2.1,List.take_append_of_le_length (by have:=HN.out.1;omega),List.take_of_length_le (by have:=HN.out.1;omega)]at rR
   have HR:=zh2 hr rR
   clear hr rR hlen h1
   go_wp2_with fail
   obtain⟨q,hq⟩:∃q,readL init 0 rt0=q:=⟨_,rfl⟩
   have HQ:=zhd hq
   clear hq cR hz0 hn0 hbd c0 c1 f0 f1 h1'
   go_loopg [5,6,7,48] n (fun gk v5 v6 v7 v48 wr=>RdRel w3 w3.heap.size n init q gk v5 v6 v7 v48 wr)
   case atStart=>exact⟨0,rt0,rfl,Nat.zero_le _,rfl,RdS.new _ _,rfl,by rw[List.drop_zero];exact HQ.out,Nat.le_refl _,Nat.le_refl _,Below.refl _ _⟩
   case round=>
    obtain⟨i,t,rfl,hi,hgk,R,htwo,hrl,hto,htn,hB⟩:=hrel
    have bB:=(hB.block w.heap.size lf).trans H3b.out.2.1
    have f0:=zfr bB 0
    have f1:=zfr bB 1
    have c0:=zca bB 0 rfl
    have c1:=zca bB 1 rfl
    have lr:=zlt bB
    have BW:=H3b.out.1.trans (hB.mono H3b.out.1.size)
    have hn3:=HN.out.2.2.2
    by_cases hin:i<n
    ·obtain⟨x,hx⟩:=elem_at (l:=init) (k:=i) (by have:=HN.out.1;omega)
     rw[drop_get hx,readL]at hrl
     have RA:=HR.out.2.below hB
     have y0:=row_str RA hx
     have agr:ag<wr.heap.size:=RA.lt rfl
     have hxs:x.size≤3000:=HGL.out.2.1 x (by rw[HGL.out.2.2.1];exact List.mem_append_left _ (zmg hx))
     have hin':(i:Int)<n:=by omega
     have HMS:=zhd (show n - (i+1)<gk from by omega)
     have HIW:=zhd (show wrap64 ((i:Int)+1)=(i:Int)+1 from by unfold wrap64;omega)
     have hi1:i+1≤n:=by omega
     have hi4:i≤4000:=by omega
     have hx64:x.size≤65536:=by omega
     have htn4:t.names.length≤4000:=by omega
     have hto4:t.out.length≤4000:=by omega
     have HS:=zh8 hgk R htwo hrl hto htn hB (zai BW hxs)
     have FA:=zhd (fun er w=>fault_any i er w hi4)
     have WD:=zhd (fun s w (h:s.size≤3000)=>word_any s w (by omega))
     obtain⟨z,hz⟩:∃z:Int,z=(x.size:Int) - 1:=⟨_,rfl⟩
     have hzw:IntKind.i64.wrap ((x.size:Int) - 1)=z:=by rw[hz];exact IntWalk.i64_in _ (by omega)
     have HZ:=zhd hz
     clear hgk R htwo hrl hto htn hB BW RA hx hn3 bB hz hxs
     go_upto_region 13 with(fail)
     go_cut [69] (fun v69 wx=>v69= .bool (isLab x)∧wx=wr)
     case first=>
      by_cases hx0:x.size=0
      ·have hlb:=zhd (isLab_zero hx0)
       have hz1:z= -1:=by rw[HZ.out,hx0];rfl
       subst hz1
       clear hx0
       go_wp2_with fail
       go_meet
       case rel=>exact⟨by rw[hlb.out],rfl⟩
      ·obtain⟨k,hk⟩:∃k,x.size=k+1:=⟨x.size - 1,by omega⟩
       have hzk:z=(k:Int):=by rw[HZ.out,hk];omega
       subst hzk
       have hkx:k<x.size:=by omega
       have hkx':(k:Int)<x.size:=by omega
       have hk0:(0:Int)≤k:=by omega
       have hk0d:decide ((0:Int)≤k)=true:=decide_eq_true hk0
       have hkle:(k:Int)≤x.size:=by omega
       by_cases h58:x[k]=58
       ·have hlb:=zhd (isLab_yes hk h58)
        have h58':((x[k].toNat:Int)==58)=true:=by rw[h58];rfl
        have WW:=zhd (WD.out (x.extract 0 k) wr (by have:=HS.out.2.2.2.2.2.2.2.2;rw[ByteArray.size_extract];omega))
        clear h58 hk hx0
        go_wp2_with fail
        refine WW.out.mono ?_
        rintro e w5 ⟨rfl,hw⟩
        rw[hw]
        clear hw w5
        go_wp2_with fail
        go_meet
        case rel=>exact⟨by rw[hlb.out,ext_list];simp,rfl⟩
       ·have hlb:=zhd (isLab_no hk h58)
        have h58':((x[k].toNat:Int)==58)=false:=by
         rw[beq_eq_false_iff_ne]
         intro e
         exact h58 (u8_of (n:=58) (by omega))
        clear h58 hk hx0
        go_wp2_with fail
        go_meet
        case rel=>exact⟨by rw[hlb.out],rfl⟩
     case rest=>
      obtain⟨rfl,rfl⟩:=hcut
      clear hzw
      cases hlab:isLab x with
      |true=>
       obtain⟨k,hk,htr⟩:=isLab_some hlab
       have hzk:z=(k:Int):=by rw[HZ.out,hk];omega
       subst hzk
       have hkx':(k:Int)<x.size:=by omega
       have hkle:(k:Int)≤x.size:=by omega
       have hM:lineM x= .lab (trimB x):=by unfold lineM;rw[if_pos hlab]
       have hrd:readM i x t=if inN (trimB x) t.names=true then(5,t)else(0,{t with names:=t.names++[trimB x],at_:=t.at_++[(t.out.length:Int)]}):=by unfold readM;rw[hM]
       obtain⟨l,hl⟩:∃l,trimB x=l:=⟨_,rfl⟩
       rw[hl]at htr hrd
       have HTR:=zh2 htr hrd
       obtain⟨na,nc,hv6⟩:=HS.out.2.1.names.slice
       subst hv6
       clear htr hrd hM hl hk hlab
       have HN6:=zhd (show w3.heap.size≤wc.heap.size from HS.out.2.2.2.2.2.2.1.size)
       focus
        exact read_label N0 s w hs r init B e1 w3 lf ac ag ao agl n m H3b HN HGL HR _ q HQ gk u2 u5 u7 u8 u9 u10 u12 u13 u14 u15 u16 u17 u18 u69 u70 u71 u72 u170 u182 u198 u210 _ _ (by assumption) (by assumption) i t hi hin x hin' HMS HIW hi1 hi4 hx64 htn4 hto4 FA WD _ (by assumption) _ _ (by assumption) wc u49 u50 u51 u52 u53 u54 u55 u56 u57 u58 u59 u60 u61 u62 u63 u64 u65 u66 u67 u68 u73 u74 u75 u76 u77 u78 u79 u80 u81 u82 u83 u84 u85 u86 u87 u88 u89 u90 u91 u92 u93 u94 u95 u96 u97 u98 u99 u100 u101 u102 u103 u104 u105 u106 u107 u108 u109 u110 u111 u112 u113 u114 u115 u116 u117 u118 u119 u120 u121 u122 u123 u124 u125 u126 u127 u128 u129 u130 u131 u132 u133 u134 u135 u136 u137 u138 u139 u140 u141 u142 u143 u144 u145 u146 u147 u148 u149 u150 u151 u152 u153 u154 u155 u156 u157 u158 u159 u160 u161 u162 u163 u164 u165 u166 u167 u168 u169 u171 u172 u173 u174 u175 u176 u177 u178 u179 u180 u181 u183 u184 u185 u186 u187 u188 u189 u190 u191 u192 u193 u194 u195 u196 u197 u199 u200 u201 u202 u203 u204 u205 u206 u207 u208 u209 u211 u212 u213 u214 u215 u216 u217 u218 u219 u220 u221 u222 u223 u224 u225 u226 u227 u228 u229 u230 u231 u232 u233 u234 u235 u236 u237 f0 f1 c0 c1 lr y0 agr k HZ hkx' hkle l HTR na nc HS HN6
      |false=>
       have HN6:=zhd (show w3.heap.size≤wc.heap.size from HS.out.2.2.2.2.2.2.1.size)
       go_upto_region 21 with(fail)
       go_cut [104] (fun v104 wx=>v104= .bool (!Lib.hasPrefix x.data.toList [32,32])∧wx=wc)
       case first=>
        by_cases hx2:x.size<2
        ·have hx2':(x.size:Int)<2:=by omega
         have hp:=zhd (pre_short hx2)
         clear hx2
         go_wp2_with fail
         go_meet
         case rel=>exact⟨by first|(rw[hp.out];rfl)|rw[hp.out],rfl⟩
        ·have hx2':¬(x.size:Int)<2:=by omega
         have hp:=zhd (pre_two hx2)
         have h22:(2:Int)≤x.size:=by omega
         have h2n:2≤x.size:=by omega
         clear hx2
         go_wp2_with fail
         go_meet
         case rel=>exact⟨by first|(rw[hp.out];rfl)|rw[hp.out],rfl⟩
       case rest=>
        obtain⟨rfl,rfl⟩:=hcut
        cases hp:Lib.hasPrefix x.data.toList [32,32]with
        |false=>
         have hrd:readM i x t=(8,t):=by unfold readM lineM;rw[if_neg (by rw[hlab];simp),if_pos hp]
         have HE:=zhd (err_read (e:=8) HR.out.1 HQ.out HS.out.2.2.2.1 (by rw[hrd]) (by decide))
         clear hrd hp hlab
         go_wp2_with fail
         refine(FA.out 8 _).mono ?_
         rintro e w5 ⟨rfl,hB5⟩
         have b5:=(hB5.block w.heap.size lr).trans ((HS.out.2.2.2.2.2.2.1.block w.heap.size lf).trans H3b.out.2.1)
         have HB5:=zhd (H3b.out.1.trans (((HS.out.2.2.2.2.2.2.1).trans (hB5.mono HS.out.2.2.2.2.2.2.1.size)).mono H3b.out.1.size))
         have f0:=zfr b5 0
         have f1:=zfr b5 1
         have c0:=zca b5 0 rfl
         have c1:=zca b5 1 rfl
         have lr:=zlt b5
         clear b5 hB5
         go_wp2_with fail
         exact bodyPost_ret (v:=.tuple #[.slice none 0 0,.agg #[.int .i64 ((i:Int)+1),.int .i64 8]]) (by simp only[results,Tryz.results11];go_simp) rfl ⟨_,by rw[←HE.out],zhd ⟨by rw[←HE.out];exact SRow.nil _ _,two_sets HB5.out _ _⟩⟩
        |true=>
         obtain⟨u,hu⟩:∃u,u=x.extract 2 x.size:=⟨_,rfl⟩
         have hlM:lineM x=lineI x:=lineM_I hlab hp
         obtain⟨cN,cR,cM⟩:=cut_ext hp hu
         have hk0:=idx32_le u.data.toList
         obtain⟨k0,hk0e⟩:∃k0,idx32 u.data.toList=k0:=⟨_,rfl⟩
         rw[hk0e]at cN cR cM hk0
         have hus:u.data.toList.length=u.size:=by simp
         have hux:u.size≤x.size:=by rw[hu,ByteArray.size_extract];omega
         have hx3:=HS.out.2.2.2.2.2.2.2.2
         have hu3:u.size≤3000:=by omega
         have hk0u:k0≤u.size:=by omega
         have HU:=zh6 hlM cN cR cM hk0e hu
         have h22:(2:Int)≤x.size:=by
          have:¬x.size<2:=fun h=>by rw[pre_short h]at hp;cases hp
          omega
         have hx2:x.extract 2 x.size=u:=hu.symm
         clear hlM cN cR cM hk0 hk0e hus hux hx3 hu hp hlab
         go_upto_block 4 with(fail)
         clear hx2
         go_cut [13] (fun v13 wx=>v13= .int .i64 k0∧wx=wc)
         case first=>
          focus
           go_wp2_with fail
           go_loopg [13] (u.size) (fun gk v13 wz=>∃j:Nat,v13= .int .i64 j∧j≤u.size∧gk=u.size - j∧j+idx32 (u.data.toList.drop j)=k0∧wz=wc)
           case atStart=>exact⟨0,rfl,Nat.zero_le _,rfl,by rw[List.drop_zero,Nat.zero_add];exact HU.out.2.2.2.2.1,rfl⟩
           case round=>
            obtain⟨j,rfl,hj,hgk,hix,rfl⟩:=hrel
            by_cases hjn:j<u.size
            ·have hjn':(j:Int)<u.size:=by omega
             rw[drop_at hjn,idx32]at hix
             have HMJ:=zhd (show u.size - (j+1)<gk from by omega)
             have hj1:j+1≤u.size:=by omega
             by_cases h32:u[j]=32
             ·have h32':((u[j].toNat:Int)==32)=true:=by rw[h32];rfl
              have h32n:((u[j].toNat:Int)!=32)=false:=by rw[bne,h32'];rfl
              have hjk:j=k0:=by rw[h32]at hix;exact hix
              clear h32 hix hgk
              subst hjk
              go_wp2_with fail
              go_meet
              case rel=>exact⟨rfl,rfl⟩
             ·have h32':((u[j].toNat:Int)==32)=false:=by
               rw[beq_eq_false_iff_ne]
               intro e
               exact h32 (u8_of (n:=32) (by omega))
              have h32n:((u[j].toNat:Int)!=32)=true:=by rw[bne,h32'];rfl
              have hix2:(j+1)+idx32 (u.data.toList.drop (j+1))=k0:=by
               rw[show(u[j]==32)=false by simpa using h32,cond_false]at hix
               omega
              have HX:=zhd hix2
              clear h32 hix hix2 hgk
              go_wp2_with fail
              go_roundg (u.size - (j+1))
              case measure=>exact HMJ.out
              case rel=>exact⟨j+1,by simp,hj1,rfl,HX.out,rfl⟩
            ·obtain rfl:j=u.size:=by omega
             have hjj:¬(u.size:Int)<u.size:=by omega
             rw[List.drop_eq_nil_of_le (by simp),idx32,Nat.add_zero]at hix
             clear hgk
             go_wp2_with fail
             go_meet
             case rel=>exact⟨by first|rfl|rw[hix],rfl⟩
         case rest=>
          obtain⟨rfl,rfl⟩:=hcut
          go_wp2_with fail
          obtain⟨w14,hw14⟩:∃w14,w14=wc.alloc (.cells #[.int .i64 (-1),.int .i64 0,.int .i64 ((i:Int)+1),.int .i64 0,.int .i64 0,.string ⟨#[]⟩,.slice none 0 0,.string ⟨#[]⟩] 41):=⟨_,rfl⟩
          rw[←hw14]
          have B14:=zba hw14
          have X14:StB w14 wc.heap.size (-1) 0 ((i:Int)+1) ⟨0,0,⟨#[]⟩,none,0,0⟩ ⟨#[]⟩:=by rw[hw14];exact heap_alloc_new _ _
          have lr14:w.heap.size<w14.heap.size:=Nat.lt_of_lt_of_le lr B14.size
          have H14:=zh4 B14 X14 (HS.out.2.1.below B14) (HS.out.2.2.2.2.2.2.1.trans (B14.mono HN6.out))
          clear hw14 B14 X14 f0 f1 c0 c1 y0 agr lr
          go_loopg [15] 33 (fun gk v15 wz=>∃j:Nat,v15= .int .i64 j∧j≤33∧gk=33 - j∧StB wz wc.heap.size (lastF (u.extract 0 k0) j) 0 ((i:Int)+1) ⟨0,0,⟨#[]⟩,none,0,0⟩ ⟨#[]⟩∧Keeps (fun g=>g=wc.heap.size) w14 wz)
          case atStart=>exact⟨0,rfl,Nat.zero_le _,rfl,H14.out.2.1,Keeps.refl _ _⟩
          case round=>
           obtain⟨j,rfl,hj,hgk,hX,hK⟩:=hrel
           obtain⟨x0,x1,x2,x3,x4,x5,x6,x7,xf,xl⟩:=hX.all
           by_cases hjn:j<33
           ·have hjn':(j:Int)<33:=by omega
            obtain⟨nj,hnj⟩:∃nj,nj=(ofL (j:Int)).1.name:=⟨_,rfl⟩
            have NM:=opname_any (j:Int) (by omega) hjn'
            rw[←hnj]at NM
            have NM:=zhd NM
            have HMJ:=zhd (show 33 - (j+1)<gk from by omega)
            have hj1:j+1≤33:=by omega
            have HX:=zh2 hX hK
            have hlf:lastF (u.extract 0 k0) (j+1)=if nj=u.extract 0 k0 then(j:Int)else lastF (u.extract 0 k0) j:=by rw[hnj];rfl
            clear hX hK hgk x1 x2 x3 x4 x5 x6 x7
            by_cases hnm:nj=u.extract 0 k0
            ·have hcmp:(nj.toList==(u.extract 0 k0).toList)=true:=by rw[hnm];simp
             rw[if_pos hnm]at hlf
             have HLF:=zhd hlf
             clear hnm hlf hnj
             focus
              go_wp2_with fail
              refine wp_region_ext (by kernel_rfl) (by kernel_rfl) ?_
              repeat(go_big_quiet_step ((go_at_call 40;exact ext_call (NM.out _))))
              refine wpQuiet_nil ?_
              intro w7 hB7
              have X7:=HX.out.1.below hB7
              have x0:=X7.all.1
              have xl:=X7.all.2.2.2.2.2.2.2.2.2
              have xf:=X7.all.2.2.2.2.2.2.2.2.1
              have HX7:=zh2 X7 hB7
              clear X7 hB7
              go_wp2_with fail
              go_roundg (33 - (j+1))
              case measure=>exact HMJ.out
              case rel=>
               have SX:StB (w7.setCell ⟨wc.heap.size,0,none⟩ (.int .i64 (j:Int))) wc.heap.size (lastF (u.extract 0 k0) (j+1)) 0 ((i:Int)+1) ⟨0,0,⟨#[]⟩,none,0,0⟩ ⟨#[]⟩:=by
                rw[HLF.out]
                exact HX7.out.1.setOp _
               have K1:=HX.out.2
               have K2:=HX7.out.2
               have K3:=keeps_low (S:=fun g=>g=wc.heap.size) (a:=w14) (b:=wr) (c:=w7) K1 K2
               have KX:=Keeps.setCell (S:=fun g=>g=wc.heap.size) (p:=⟨wc.heap.size,0,none⟩) K3 (.inl rfl) (.int .i64 (j:Int))
               clear K1 K2 K3
               refine⟨j+1,?_,hj1,rfl,SX,KX⟩
               simp
            ·have hcmp:(nj.toList==(u.extract 0 k0).toList)=false:=by
              rw[beq_eq_false_iff_ne,ByteArray.toList_eq,ByteArray.toList_eq]
              exact fun e=>hnm (bytes_inj.1 e)
             rw[if_neg hnm]at hlf
             have HLF:=zhd hlf
             clear hnm hlf hnj
             focus
              go_wp2_with fail
              refine wp_region_ext (by kernel_rfl) (by kernel_rfl) ?_
              repeat(go_big_quiet_step ((go_at_call 40;exact ext_call (NM.out _))))
              refine wpQuiet_nil ?_
              intro w7 hB7
              have HX7:=zh2 (HX.out.1.below hB7) hB7
              clear hB7 x0 xf xl
              go_wp2_with fail
              go_roundg (33 - (j+1))
              case measure=>exact HMJ.out
              case rel=>
               have SX:=HX7.out.1
               rw[←HLF.out]at SX
               have K1:=HX.out.2
               have K2:=HX7.out.2
               have KX:=keeps_low (S:=fun g=>g=wc.heap.size) (a:=w14) (b:=wr) (c:=w7) K1 K2
               clear K1 K2
               refine⟨j+1,?_,hj1,rfl,SX,KX⟩
               simp
           ·have hj33:¬(j:Int)<33:=by omega
            have h33:33≤j:=by omega
            obtain⟨ov,hlf⟩:∃ov,ov=lastF (u.extract 0 k0) j:=⟨_,rfl⟩
            rw[←hlf]at hX x0
            have HLF:=zh3 hlf h33 hj
            clear hlf h33 hj
            have K1:Below wc.heap.size w14 wr:=Keeps.below hK H14.out.1.size (fun jz hj e=>(Nat.ne_of_lt hj) e)
            have BZ:Below wc.heap.size wc wr:=Below.trans H14.out.1 K1
            have R1:=RdS.below HS.out.2.1 BZ
            have R2:Below w3.heap.size w3 wr:=Below.trans HS.out.2.2.2.2.2.2.1 (Below.mono BZ HN6.out)
            have R3:Below w.heap.size w wr:=Below.trans HS.out.2.2.2.2.2.2.2.1 (Below.mono BZ HS.out.2.2.2.2.2.2.2.1.size)
            have RW:=zh5 hX BZ R1 R2 R3
            clear hX hK hgk K1 BZ R1 R2 R3 x1 x2 x3 x4 x5 x6 x7
            have hlM:=HU.out.1
            cases hfd:findL (cutN x)with
            |none=>
             have hfd2:=hfd
             rw[HU.out.2.1]at hfd2
             have hl1:ov= -1:=by rw[HLF.out.1];exact lastF_none hfd2 j HLF.out.2.2
             subst hl1
             have hrd:readM i x t=(110,t):=by unfold readM;rw[hlM];unfold lineI;rw[hfd]
             have HE:=zhd (err_read (e:=110) HR.out.1 HQ.out HS.out.2.2.2.1 (by rw[hrd]) (by decide))
             have lrr:w.heap.size<wr.heap.size:=Nat.lt_of_lt_of_le lf RW.out.2.2.2.1.size
             clear hlM hfd hfd2 hrd hjn
             focus
              go_wp2_with fail
              refine(FA.out 110 _).mono ?_
              rintro e w5 ⟨rfl,hB5⟩
              have b5:=(hB5.block w.heap.size lrr).trans ((RW.out.2.2.2.1.block w.heap.size lf).trans H3b.out.2.1)
              have HB5:=zhd (H3b.out.1.trans (((RW.out.2.2.2.1).trans (hB5.mono RW.out.2.2.2.1.size)).mono H3b.out.1.size))
              have f0:=zfr b5 0
              have f1:=zfr b5 1
              have c0:=zca b5 0 rfl
              have c1:=zca b5 1 rfl
              have lr:=zlt b5
              clear b5 hB5
              go_wp2_with fail
              exact bodyPost_ret (v:=.tuple #[.slice none 0 0,.agg #[.int .i64 ((i:Int)+1),.int .i64 110]]) (by simp only[results,Tryz.results11];go_simp) rfl ⟨_,by rw[←HE.out],zhd ⟨by rw[←HE.out];exact SRow.nil _ _,two_sets HB5.out _ _⟩⟩
            |some op=>
             have hfd2:=hfd
             rw[HU.out.2.1]at hfd2
             have hop33:op<33:=by obtain⟨_,h,_⟩:=findFrom_get hfd2;omega
             have hl1:ov=(op:Int):=by rw[HLF.out.1,lastF_some hfd2 j HLF.out.2.2,if_pos (Nat.lt_of_lt_of_le hop33 HLF.out.2.1)]
             subst hl1
             have hop0:¬(op:Int)<0:=Int.not_lt.2 (Int.natCast_nonneg op)
             obtain⟨kd,hkd⟩:∃kd,(ofL (op:Int)).1.operand=kd:=⟨_,rfl⟩
             have OPC:=fun w=>operand_any (op:Int) (Int.natCast_nonneg op) (Int.ofNat_lt.2 hop33) w
             have hb6:=operand_bd6 (op:Int)
             rw[hkd]at OPC hb6
             have OPC:=zhd OPC
             have hlI:lineM x=if cutM x≠(kd !=0)then .bad 8 else if cutM x=true then operM op kd (cutR x)else .ins op (.int 0):=by rw[hlM];unfold lineI;rw[hfd,←hkd]
             rw[HU.out.2.2.2.1,HU.out.2.2.1]at hlI
             have HLI:=zhd hlI
             have h45:(opC kd==45)=(kd==0):=by rcases hb6 with h|h|h|h|h|h<;>rw[h]<;>rfl
             have HB6:=zh2 hb6 hkd
             have lrr:w.heap.size<wr.heap.size:=Nat.lt_of_lt_of_le lf RW.out.2.2.2.1.size
             clear hlM hfd hfd2 hlI hb6 hjn hkd
             by_cases hku:k0<u.size
             ·have hku':(k0:Int)<u.size:=Int.ofNat_lt.2 hku
              cases hk0:(kd==0)with
              |true=>
               have h45':(opC kd==45)=true:=by rw[h45,hk0]
               have h45n:(opC kd !=45)=false:=by rw[bne,h45'];rfl
               have hl:=HLI.out
               rw[decide_eq_true hku,show(kd !=0)=false by rw[bne,hk0];rfl,if_pos (by simp)]at hl
               have hrd:readM i x t=(8,t):=by unfold readM;rw[hl]
               have HE:=zhd (err_read (e:=8) HR.out.1 HQ.out HS.out.2.2.2.1 (by rw[hrd]) (by decide))
               clear hl hrd h45 hk0
               focus
                go_wp2_with fail
                refine(OPC.out _).mono ?_
                rintro e w4 ⟨rfl,hB4⟩
                have B4:Below w3.heap.size w3 w4:=Below.trans RW.out.2.2.2.1 (Below.mono hB4 RW.out.2.2.2.1.size)
                have H4:=zhd B4
                have lr4:w.heap.size<w4.heap.size:=Nat.lt_of_lt_of_le lf B4.size
                clear hB4 B4 x0 xf xl lrr
                go_wp2_with fail
                refine(FA.out 8 _).mono ?_
                rintro e w5 ⟨rfl,hB5⟩
                have b5:=(hB5.block w.heap.size lr4).trans ((H4.out.block w.heap.size lf).trans H3b.out.2.1)
                have HB5:=zhd (H3b.out.1.trans (((H4.out).trans (hB5.mono H4.out.size)).mono H3b.out.1.size))
                have f0:=zfr b5 0
                have f1:=zfr b5 1
                have c0:=zca b5 0 rfl
                have c1:=zca b5 1 rfl
                have lr:=zlt b5
                clear b5 hB5
                go_wp2_with fail
                exact bodyPost_ret (v:=.tuple #[.slice none 0 0,.agg #[.int .i64 ((i:Int)+1),.int .i64 8]]) (by simp only[results,Tryz.results11];go_simp) rfl ⟨_,by rw[←HE.out],zhd ⟨by rw[←HE.out];exact SRow.nil _ _,two_sets HB5.out _ _⟩⟩
              |false=>
               have h45':(opC kd==45)=false:=by rw[h45,hk0]
               have h45n:(opC kd !=45)=true:=by rw[bne,h45'];rfl
               have hl:=HLI.out
               rw[decide_eq_true hku,show(kd !=0)=true by rw[bne,hk0];rfl,if_neg (by simp),if_pos rfl]at hl
               have hkd0:kd≠0:=by simpa using hk0
               obtain⟨y,hy⟩:∃y,y=u.extract (k0+1) u.size:=⟨_,rfl⟩
               have hye:u.extract (k0+1) u.size=y:=hy.symm
               rw[hye]at hl
               have hst:stepR i x op=⟨op,digL2 y.data.toList,(i:Int)+1,(parseV y.data.toList).1,y⟩:=by rw[stepR_arg (by rw[HB6.out.2];exact hkd0),HU.out.2.2.1,hye]
               have hys:y.size≤3000:=by rw[hy,ByteArray.size_extract];omega
               have hk1:((k0:Int)+1)≤u.size:=by omega
               have hkw:IntKind.i64.wrap ((k0:Int)+1)=((k0+1:Nat):Int):=by rw[IntWalk.i64_in _ (by omega)];rfl
               have PA:=zhd (fun w G=>parse_any y w (N:=N0) (by omega) G _ rfl)
               have HY:=zh4 hl hst hys hkd0
               clear hl hst hys hkd0 hy h45 hk0
               go_wp2_with fail
               refine(OPC.out _).mono ?_
               rintro e w4 ⟨rfl,hB4⟩
               have B4:Below w3.heap.size w3 w4:=Below.trans RW.out.2.2.2.1 (Below.mono hB4 RW.out.2.2.2.1.size)
               have BW4:Below w.heap.size w w4:=Below.trans RW.out.2.2.2.2 (Below.mono hB4 RW.out.2.2.2.2.size)
               have H4:=zh4 B4 BW4 (RdS.below RW.out.2.2.1 hB4) (RW.out.1.below hB4)
               have H4B:=zhd (Below.trans RW.out.2.1 (Below.mono hB4 RW.out.2.1.size))
               have PB:=zhd (PA.out w4 (HGL.out.1.below BW4))
               clear hB4 B4 BW4 x0 xf xl lrr PA OPC
               go_wp2_with fail
               refine PB.out.mono ?_
               rintro e w5 ⟨c,rfl,hcf,hB5⟩
               obtain⟨vv,er,hpv⟩:∃vv er,parseV y.data.toList=(vv,er):=⟨_,_,rfl⟩
               rw[hpv]at hcf⊢
               dsimp only at hcf⊢
               have B5:Below w3.heap.size w3 w5:=Below.trans H4.out.1 (Below.mono hB5 H4.out.1.size)
               have H5:=zh4 B5 hcf hB5 hpv
               have lr5:w.heap.size<w5.heap.size:=Nat.lt_of_lt_of_le lf B5.size
               clear hB5 B5 hcf hpv PB
               go_upto_block 8 with(fail)
               obtain⟨w6,hw6⟩:∃w6,w6=w5.alloc (.cells #[.int .i64 c.kind,.int .i64 c.n,.string c.s,.slice c.la c.ln c.lc] 39):=⟨_,rfl⟩
               have b6:=zha hw6
               have B6:=zba hw6
               have H6:=zh3 (Below.trans H5.out.1 (Below.mono B6 H5.out.1.size)) B6 b6
               have v0:=zca b6 0 rfl
               have lv:w5.heap.size<w6.heap.size:=zlt b6
               have lr6:w.heap.size<w6.heap.size:=Nat.lt_of_lt_of_le lf H6.out.1.size
               rw[←hw6]
               clear hw6 b6 B6
               obtain⟨wq,rfl⟩:∃wq:World,wq=wc:=⟨_,rfl⟩
               go_cut [] (fun wx=>Below w6.heap.size w6 wx∧readM i x t=(0,{t with out:=t.out++[stepR i x op]}))
               case first=>
                exact read_first N0 s w hs r init B e1 w3 lf ac ag ao agl n m H3b HN HGL y0 HR _ q HQ _ u2 u5 u6 u7 u8 u9 u10 u12 u13 u14 u15 u16 u17 u18 u70 u71 u72 u170 u182 u198 u210 _ i t hi hin x hin' HMS HIW hi1 hi4 hx64 htn4 hto4 FA WD _ HZ _ u104 u49 u50 u51 u52 u53 u54 u55 u56 u57 u58 u59 u60 u61 u62 u63 u64 u65 u66 u67 u68 u69 u73 u74 u75 u76 u77 u78 u79 u80 u81 u82 u83 u84 u85 u86 u87 u88 u89 u90 u91 u92 u93 u94 u95 u96 u97 u98 u99 u100 u101 u102 u103 u105 u106 u107 u108 u109 u110 u123 u124 u125 u138 u139 u140 u141 u142 u143 u144 u145 u146 u147 u148 u149 u150 u151 u152 u153 u154 u155 u156 u157 u158 u159 u160 u161 u162 u163 u164 u165 u166 u167 u168 u169 u171 u172 u173 u174 u175 u176 u177 u178 u179 u180 u181 u183 u184 u185 u186 u187 u188 u189 u190 u191 u192 u193 u194 u195 u196 u197 u199 u200 u201 u202 u203 u204 u205 u206 u207 u208 u209 u211 u212 u213 u214 u215 u216 u217 u218 u219 u220 u221 u222 u223 u224 u225 u226 u227 u228 u229 u230 u231 u232 u233 u234 u235 u236 u237 u k0 hu3 hk0u HU h22 u111 u112 u113 u114 u115 u116 u117 u118 u119 u120 u121 u122 w14 lr14 gk wr u126 u127 u128 u129 u130 u131 u132 u133 u134 u135 u136 u137 j op hop33 HLF kd OPC HLI HB6 hku hku' h45' h45n y hye hk1 hkw HY hj33 hop0 w4 _ w5 c vv er H5 lr5 w6 H6 v0 lv lr6 wq HS HN6 H14 RW H4 H4B _ _ (by assumption) (by assumption)
               case rest=>
                exact read_rest N0 s w hs r init B e1 w3 lf ac ag ao agl n m H3b HN HGL y0 HR _ q HQ _ u5 u6 u7 u8 u9 u10 u12 u13 u14 u15 u16 u17 u18 u70 u71 u72 _ _ (by assumption) (by assumption) i t hi hin x hin' HMS HIW hi1 hi4 hx64 htn4 hto4 FA WD _ HZ _ (by assumption) u k0 hu3 hk0u HU h22 w14 lr14 gk wr j op hop33 HLF kd OPC HLI HB6 hku hku' h45' h45n y hye hk1 hkw HY hj33 hop0 w4 _ (by assumption) w5 c vv er H5 lr5 _ (by assumption) w6 H6 v0 lv lr6 wq HS HN6 H14 RW H4 H4B wc u2 u49 u50 u51 u52 u53 u54 u55 u56 u57 u58 u59 u60 u61 u62 u63 u64 u65 u66 u67 u68 u69 u73 u74 u75 u76 u77 u78 u79 u80 u81 u82 u83 u84 u85 u86 u87 u88 u89 u90 u91 u92 u93 u94 u95 u96 u97 u98 u99 u100 u101 u102 u103 u104 u105 u106 u107 u108 u109 u110 u111 u112 u113 u114 u115 u116 u117 u118 u119 u120 u121 u122 u123 u124 u125 u126 u127 u128 u129 u130 u131 u132 u133 u134 u135 u136 u137 u138 u139 u140 u141 u142 u143 u144 u145 u146 u147 u148 u149 u150 u151 u152 u153 u154 u155 u156 u157 u158 u159 u160 u161 u162 u163 u164 u165 u166 u167 u168 u169 u170 u171 u172 u173 u174 u175 u176 u177 u178 u179 u180 u181 u182 u183 u184 u185 u186 u187 u188 u189 u190 u191 u192 u193 u194 u195 u196 u197 u198 u199 u200 u201 u202 u203 u204 u205 u206 u207 u208 u209 u210 u211 u212 u213 u214 u215 u216 u217 u218 u219 u220 u221 u222 u223 u224 u225 u226 u227 u228 u229 u230 u231 u232 u233 u234 u235 u236 u237 hcut
             ·have hku':¬(k0:Int)<u.size:=fun h=>hku (Int.ofNat_lt.1 h)
              cases hk0:(kd==0)with
              |false=>
               have h45':(opC kd==45)=false:=by rw[h45,hk0]
               have h45n:(opC kd !=45)=true:=by rw[bne,h45'];rfl
               have hl:=HLI.out
               rw[decide_eq_false hku,show(kd !=0)=true by rw[bne,hk0];rfl,if_pos (by simp)]at hl
               have hrd:readM i x t=(8,t):=by unfold readM;rw[hl]
               have HE:=zhd (err_read (e:=8) HR.out.1 HQ.out HS.out.2.2.2.1 (by rw[hrd]) (by decide))
               clear hl hrd h45 hk0
               focus
                go_wp2_with fail
                refine(OPC.out _).mono ?_
                rintro e w4 ⟨rfl,hB4⟩
                have B4:Below w3.heap.size w3 w4:=Below.trans RW.out.2.2.2.1 (Below.mono hB4 RW.out.2.2.2.1.size)
                have H4:=zhd B4
                have lr4:w.heap.size<w4.heap.size:=Nat.lt_of_lt_of_le lf B4.size
                clear hB4 B4 x0 xf xl lrr
                go_wp2_with fail
                refine(FA.out 8 _).mono ?_
                rintro e w5 ⟨rfl,hB5⟩
                have b5:=(hB5.block w.heap.size lr4).trans ((H4.out.block w.heap.size lf).trans H3b.out.2.1)
                have HB5:=zhd (H3b.out.1.trans (((H4.out).trans (hB5.mono H4.out.size)).mono H3b.out.1.size))
                have f0:=zfr b5 0
                have f1:=zfr b5 1
                have c0:=zca b5 0 rfl
                have c1:=zca b5 1 rfl
                have lr:=zlt b5
                clear b5 hB5
                go_wp2_with fail
                exact bodyPost_ret (v:=.tuple #[.slice none 0 0,.agg #[.int .i64 ((i:Int)+1),.int .i64 8]]) (by simp only[results,Tryz.results11];go_simp) rfl ⟨_,by rw[←HE.out],zhd ⟨by rw[←HE.out];exact SRow.nil _ _,two_sets HB5.out _ _⟩⟩
              |true=>
               have h45':(opC kd==45)=true:=by rw[h45,hk0]
               have h45n:(opC kd !=45)=false:=by rw[bne,h45'];rfl
               have hkd0:kd=0:=by simpa using hk0
               have hl:=HLI.out
               rw[decide_eq_false hku,show(kd !=0)=false by rw[bne,hk0];rfl,if_neg (by simp),if_neg (by simp)]at hl
               have hst:stepR i x op=⟨op,0,(i:Int)+1,vNil,⟨#[]⟩⟩:=by unfold stepR;rw[if_pos (by rw[HB6.out.2];exact hkd0)]
               have hrd:readM i x t=(0,{t with out:=t.out++[(⟨op,0,(i:Int)+1,vNil,⟨#[]⟩⟩:SR)]}):=by unfold readM;rw[hl];dsimp only;rw[hst]
               have HE:=zhd (ok_read HS.out.2.2.2.1 hrd)
               clear hl hrd h45 hk0 hst hkd0
               focus
                go_wp2_with fail
                refine(OPC.out _).mono ?_
                rintro e w4 ⟨rfl,hB4⟩
                have B4:Below w3.heap.size w3 w4:=Below.trans RW.out.2.2.2.1 (Below.mono hB4 RW.out.2.2.2.1.size)
                have R4:=RdS.below RW.out.2.2.1 hB4
                have X4:=RW.out.1.below hB4
                obtain⟨x0,x1,x2,x3,x4,x5,x6,x7,xf,xl⟩:=X4.all
                clear hB4 X4 lrr
                dsimp only at x3 x4 x5 x6
                have hb4:=B4.size
                have RA:=zhd (R4.below ((Below.refl w4.heap.size w4).alloc (Nat.le_refl _) (.cells #[.int .i64 op,.int .i64 0,.int .i64 ((i:Int)+1),.int .i64 0,.int .i64 0,.string ⟨#[]⟩,.slice none 0 0,.string ⟨#[]⟩] 41)))
                obtain⟨cs,hcr,hcl,hcf⟩:=RA.out.out
                obtain⟨oa,oc,hv5⟩:=hcr.slice
                subst hv5
                have HCF:=zh5 hcr hcl hcf B4 hb4
                have hB1:(cs.length+1)*96≤140737488355328:=by rw[hcl];omega
                have hB2:cs.length+1≤maxLen:=by rw[hcl];unfold maxLen;omega
                clear hcr hcl hcf R4 B4 hb4
                go_wp2_with (at_builtin;go_must (refine wp_appW (α:=SC) elemSC rfl (.tmp 233) (.tmp 235) rfl HCF.out.1 (⟨op,0,(i:Int)+1,⟨0,0,⟨#[]⟩,none,0,0⟩,⟨#[]⟩⟩:SC) rfl rfl (heap_alloc_new _ _) hB1 hB2 ?_);intro a1 q1 w8 hr1 hk1 hf1;have HF:=zh3 hr1 hk1 hf1;clear hr1 hk1 hf1)
                go_roundg (n - (i+1))
                case measure=>exact HMS.out
                case rel=>
                 have hN4:w3.heap.size≤(World.alloc w4 (.cells #[.int .i64 op,.int .i64 0,.int .i64 ((i:Int)+1),.int .i64 0,.int .i64 0,.string ⟨#[]⟩,.slice none 0 0,.string ⟨#[]⟩] 41)).heap.size:=by rw[alloc_sz'];exact Nat.le_succ_of_le HCF.out.2.2.2.2
                 have R9:=RdS.put5 (x:=⟨op,0,(i:Int)+1,vNil,⟨#[]⟩⟩) RA.out hN4 HCF.out.2.1 HCF.out.2.2.1 ⟨rfl,rfl,rfl,cf_nil _ _,rfl⟩ HF.out.1 HF.out.2.1 HF.out.2.2
                 refine⟨i+1,{t with out:=t.out++[(⟨op,0,(i:Int)+1,vNil,⟨#[]⟩⟩:SR)]},by simp,hi1,rfl,R9,HS.out.2.2.1,HE.out,?_,?_,?_⟩
                 ·show(t.out++[_]).length≤i+1
                  rw[List.length_append]
                  exact Nat.succ_le_succ HS.out.2.2.2.2.1
                 ·exact Nat.le_succ_of_le HS.out.2.2.2.2.2.1
                 ·have o5:=RA.out.o5
                  exact Below.trans HCF.out.2.2.2.1 (Below.trans ((Below.refl w4.heap.size w4).alloc (Nat.le_refl _) _|>.mono HCF.out.2.2.2.2) (Keeps.below HF.out.2.1 hN4 (fun jz hj e=>Nat.not_lt.2 (o5 jz e).1 hj)))
    ·have hin':¬(i:Int)<n:=by omega
     rw[List.drop_eq_nil_of_le (by have:=HN.out.1;omega),readL]at hrl
     subst hrl
     have hre:=end_read HR.out.1 HQ.out
     obtain⟨fb,hfb⟩:∃fb,firstBad t t.out.length t.out=fb:=⟨_,rfl⟩
     rw[hfb]at hre
     have hops:=readL_ops init 0 rt0 (by intro x hx;cases hx)
     rw[HQ.out]at hops
     obtain⟨oa,oc,hv5⟩:=R.out.slice
     obtain⟨na,nc,hv6⟩:=R.names.slice
     obtain⟨ta,tc,hv7⟩:=R.at_.slice
     subst hv5 hv6 hv7
     have HT:=zh8 hre hfb hops htwo R hB hto htn
     have ho4:t.out.length≤4000:=by have:=HN.out.2.2.2;omega
     have hn4:t.names.length≤4000:=by have:=HN.out.2.2.2;omega
     clear hre hfb hops htwo R hB hto htn bB f0 f1 c0 c1 lr BW hin hgk hi hn3
     focus
      go_upto_region 52 with(fail)
      exact read_tail s w r B w3 _ ac ag ao n m i t fb oa na ta oc nc tc _ _ _ _ _ _ _ _ _ _ _ _ _ _ _ _ _ _ _ _ _ _ _ _ _ _ _ _ _ _ _ _ _ _ _ _ _ _ _ _ _ _ _ _ _ _ _ _ _ _ _ _ _ _ _ _ _ _ _ _ _ _ _ _ _ _ _ _ _ _ _ _ _ _ _ _ _ _ _ _ _ _ _ _ _ _ _ _ _ _ _ _ _ _ _ _ _ _ _ _ _ _ _ _ _ _ _ _ _ _ _ _ _ _ _ _ _ _ _ _ _ _ _ _ _ _ _ _ _ _ _ _ _ _ _ _ _ _ _ _ _ _ _ _ _ _ _ _ _ _ _ _ _ _ _ _ _ _ _ _ _ _ _ _ _ _ _ _ _ _ _ _ _ _ _ _ _ _ _ _ _ _ _ _ _ _ _ _ _ _ _ _ _ _ _ _ _ _ _ lf H3b HT ho4 hn4 _ _ (by assumption) (by assumption)
 ·have hl:(last.toList==[])=false:=by
   rw[beq_eq_false_iff_ne,ByteArray.toList_eq]
   intro e
   exact hlast (bytes_inj.1 e)
  have hl2:(last.toList !=[])=true:=by rw[bne,hl];rfl
  have hr:=HGL.out.2.2.2
  rw[if_pos (.inr hlast)]at hr
  have HR:=zhd hr
  clear hlen hr
  go_wp2_with fail
  exact bodyPost_ret (v:=.tuple #[.slice none 0 0,.agg #[.int .i64 0,.int .i64 8]]) (by simp only[results,Tryz.results11];go_simp) rfl ⟨_,by rw[←HR.out],zhd ⟨by rw[←HR.out];exact SRow.nil _ _,two_sets (H3b.out.1) _ _⟩⟩
end Go.Proofs.YtakljipkaoahnaaGreatDoor
