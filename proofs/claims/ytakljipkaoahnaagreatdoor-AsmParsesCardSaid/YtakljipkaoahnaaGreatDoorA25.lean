/- Parts of the proof: what the functions and the plain laws give that later parts lean on. Conditions: none beyond those that each theorem names. -/
import Derived.Test.YtakljipkaoahnaaGreatDoorA24
set_option maxRecDepth 100000
set_option maxHeartbeats 8000000
namespace Go.Proofs.YtakljipkaoahnaaGreatDoor
open Go.RowKit Go.Own Go.Own.MapTy Go.Va Go.Sort
open Go.Own.Cells (sz enc)
def seekR (id:Nat):Code→Option Code
 | .region i ops d=>bif i==id then some (.region i ops d)else none
 | .seq x y=>match seekR id x with
   |some c=>some c
   |none=>seekR id y
 | .cond _ x y=>match seekR id x with
   |some c=>some c
   |none=>seekR id y
 | .block _ c=>seekR id c
 | .loop c=>seekR id c
 | .scope c=>seekR id c
 |_=>none
def seekB (id:Nat):Code→Option Code
 | .block i c=>bif i==id then some (.block i c)else seekB id c
 | .seq x y=>match seekB id x with
   |some c=>some c
   |none=>seekB id y
 | .cond _ x y=>match seekB id x with
   |some c=>some c
   |none=>seekB id y
 | .loop c=>seekB id c
 | .scope c=>seekB id c
 |_=>none
def seekS (id:Nat):Code→Option Code
 | .seq x y=>match x with
   | .region i ops d=>bif i==id then some (.seq (.region i ops d) y)else seekS id y
   |x=>match seekS id x with
    |some c=>some c
    |none=>seekS id y
 | .cond _ x y=>match seekS id x with
   |some c=>some c
   |none=>seekS id y
 | .block _ c=>seekS id c
 | .loop c=>seekS id c
 | .scope c=>seekS id c
 |_=>none
noncomputable def tailR:Code:=(Tryz.f11.body.bind (seekR 52)).getD .skip
noncomputable def tailB:Code:=(Tryz.f11.body.bind (seekB 9)).getD .skip
noncomputable def tailS:Code:=(Tryz.f11.body.bind (seekS 66)).getD .skip
set_option maxHeartbeats 80000000 in
theorem read_tail (s:ByteArray)(w:World)(r:(Int×Int)×List SR)(B:List ByteArray)(w3 wr:World)(ac:Nat)(ag ao n m i:Nat)(t:RT)(fb:Int×Int)(oa na ta:Option Addr)(oc nc tc:Nat)
  (u2 u8 u9 u10 u12 u13 u14 u15 u16 u17 u18 u50 u51 u52 u53 u54 u55 u56 u57 u58 u59 u60 u61 u62 u63 u64 u65 u66 u67 u68 u69 u70 u71 u72 u73 u74 u75 u76 u77 u78 u79 u80 u81 u82 u83 u84 u85 u86 u87 u88 u89 u90 u91 u92 u93 u94 u95 u96 u97 u98 u99 u100 u101 u102 u103 u104 u105 u106 u107 u108 u109 u110 u111 u112 u113 u114 u115 u116 u117 u118 u119 u120 u121 u122 u123 u124 u125 u126 u127 u128 u129 u130 u131 u132 u133 u134 u135 u136 u137 u138 u139 u140 u141 u142 u143 u144 u145 u146 u147 u148 u149 u150 u151 u152 u153 u154 u155 u156 u157 u158 u159 u160 u161 u162 u163 u164 u165 u166 u167 u168 u169 u170 u171 u172 u173 u174 u175 u176 u177 u178 u179 u180 u181 u182 u183 u184 u185 u186 u187 u188 u189 u190 u191 u192 u193 u194 u195 u196 u197 u198 u199 u200 u201 u202 u203 u204 u205 u206 u207 u208 u209 u210 u211 u212 u213 u214 u215 u216 u217 u218 u219 u220 u221 u222 u223 u224 u225 u226 u227 u228 u229 u230 u231 u232 u233 u234 u235 u236 u237:Value)
  (lf:w.heap.size<w3.heap.size)
  (H3b:Hid (Below w.heap.size w w3∧w3.heap[w.heap.size]? =some (.cells #[.int .i64 0,.int .i64 0] 30 (0,0))∧RowAt w3 9 (.slice (some ⟨ag,ao,none⟩) m ac) B∧∀g,(Value.slice (some ⟨ag,ao,none⟩) m ac).ownBlock=some g→w.heap.size+1≤g))
  (HT:Hid ((bif fb.2 !=0 then(fb,[])else(((0:Int),(0:Int)),t.out.map (fixF t)))=r∧firstBad t (t.out.length:Int) t.out=fb∧(∀x∈t.out,0≤x.op∧x.op<33)∧t.names.length=t.at_.length∧RdS w3.heap.size wr (.slice oa t.out.length oc) (.slice na t.names.length nc) (.slice ta t.at_.length tc) t∧Below w3.heap.size w3 wr∧t.out.length≤i∧t.names.length≤i))
  (ho4:t.out.length≤4000)(hn4:t.names.length≤4000)(K K1:Act→World→Prop)
  (h1:∀(a:Act) (w':World),Code.wp Tryz.prog tailB (Exit.then K1 (bodyPost Tryz.prog Tryz.f11 (RDPost w r))) a w'→K a w')
  (h2:∀(a:Act) (w':World),Code.wp Tryz.prog tailS (bodyPost Tryz.prog Tryz.f11 (RDPost w r)) a w'→K1 a w'):
  Code.wp Tryz.prog tailR (Exit.then K (Exit.then K1 (bodyPost Tryz.prog Tryz.f11 (RDPost w r)))) ⟨#[.string s,undef,u2,.pointer (some ⟨w.heap.size,0,none⟩),.slice (some ⟨ag,ao,none⟩) m ac,.slice oa t.out.length oc,.slice na t.names.length nc,.slice ta t.at_.length tc,u8,u9,u10,undef,u12,u13,u14,u15,u16,u17,u18,undef,undef,undef,undef,.string s,.int .i64 (s.size:Int),.bool false,undef,.string s,.slice (some ⟨ag,ao,none⟩) m ac,.slice (some ⟨ag,ao,none⟩) m ac,.slice (some ⟨ag,ao,none⟩) m ac,.int .i64 (m:Int),.int .i64 (n:Int),.pointer (some ⟨ag,ao+n,none⟩),.string ⟨#[]⟩,.bool false,.bool false,.slice (some ⟨ag,ao,none⟩) m ac,.int .i64 (m:Int),.bool false,.bool false,undef,.slice (some ⟨ag,ao,none⟩) m ac,.slice (some ⟨ag,ao,none⟩) m ac,.int .i64 (m:Int),.int .i64 (n:Int),.slice (some ⟨ag,ao,none⟩) n ac,.int .i64 (n:Int),.int .i64 (i:Int),.bool false,u50,u51,u52,u53,u54,u55,u56,u57,u58,u59,u60,u61,u62,u63,u64,u65,u66,u67,u68,u69,u70,u71,u72,u73,u74,u75,u76,u77,u78,u79,u80,u81,u82,u83,u84,u85,u86,u87,u88,u89,u90,u91,u92,u93,u94,u95,u96,u97,u98,u99,u100,u101,u102,u103,u104,u105,u106,u107,u108,u109,u110,u111,u112,u113,u114,u115,u116,u117,u118,u119,u120,u121,u122,u123,u124,u125,u126,u127,u128,u129,u130,u131,u132,u133,u134,u135,u136,u137,u138,u139,u140,u141,u142,u143,u144,u145,u146,u147,u148,u149,u150,u151,u152,u153,u154,u155,u156,u157,u158,u159,u160,u161,u162,u163,u164,u165,u166,u167,u168,u169,u170,u171,u172,u173,u174,u175,u176,u177,u178,u179,u180,u181,u182,u183,u184,u185,u186,u187,u188,u189,u190,u191,u192,u193,u194,u195,u196,u197,u198,u199,u200,u201,u202,u203,u204,u205,u206,u207,u208,u209,u210,u211,u212,u213,u214,u215,u216,u217,u218,u219,u220,u221,u222,u223,u224,u225,u226,u227,u228,u229,u230,u231,u232,u233,u234,u235,u236,u237,undef,undef,undef,undef,undef,undef,undef,undef,undef,undef,undef,undef,undef,undef,undef,undef,undef,undef,undef,undef,undef,undef,undef,undef,undef,undef,undef,undef,undef,undef,undef,undef,undef,undef,undef,undef,undef,undef,undef,undef,undef,undef,undef,undef,undef,undef,undef,undef,undef,undef,undef,undef,undef,undef,undef,undef,undef],[]⟩ wr:=by
 revert h1 h2
 conv=>arg 1;intro a w';arg 1;arg 2;whnf
 conv=>arg 2;arg 1;intro a w';arg 1;arg 2;whnf
 conv=>arg 2;arg 2;arg 2;whnf
 intro h1 h2
 go_wp2_with fail
 go_loopg [240] (t.out.length) (fun gk v240 wz=>∃j:Nat,v240= .int .i64 j∧j≤t.out.length∧gk=t.out.length - j∧RdS w3.heap.size wz (.slice oa t.out.length oc) (.slice na t.names.length nc) (.slice ta t.at_.length tc) {t with out:=(t.out.take j).map (fixF t)++t.out.drop j}∧firstBad t t.out.length (t.out.drop j)=fb∧Below w3.heap.size w3 wz)
 case atStart=>exact⟨0,rfl,Nat.zero_le _,rfl,by rw[List.take_zero,List.map_nil,List.nil_append,List.drop_zero];exact HT.out.2.2.2.2.1,by rw[List.drop_zero];exact HT.out.2.1,HT.out.2.2.2.2.2.1⟩
 case round=>
  obtain⟨j,rfl,hj,hgk,RJ,hfj,hBj⟩:=hrel
  have bB:=(hBj.block w.heap.size lf).trans H3b.out.2.1
  have f0:=zfr bB 0
  have f1:=zfr bB 1
  have c0:=zca bB 0 rfl
  have c1:=zca bB 1 rfl
  have lr:=zlt bB
  have BWj:=H3b.out.1.trans (hBj.mono H3b.out.1.size)
  clear bB
  by_cases hjn:j<t.out.length
  ·obtain⟨x,hx⟩:=elem_at hjn
   have hcur:=cur_at (t:=t) hx
   obtain⟨g,off,c,rfl,hgl,hcf,hfz,e0,e1,e2,e3,e4,e5,e6,e7⟩:=RJ.out.at_ hcur
   obtain⟨cop,cn,cl,⟨vk,vn,vs,va,vl,vc⟩,clab⟩:=c
   obtain rfl:cop=x.op:=hcf.op
   obtain rfl:cl=x.line:=hcf.line
   obtain rfl:clab=x.label:=hcf.label
   dsimp only at e0 e1 e2 e3 e4 e5 e6 e7
   have hop:=HT.out.2.2.1 x (mem_of_get hx)
   have OPC:=zhd (fun w=>operand_any x.op hop.1 hop.2 w)
   have hb6:=operand_bd6 x.op
   have hjn':(j:Int)<t.out.length:=by omega
   have HMS:=zhd (show t.out.length - (j+1)<gk from by omega)
   have hj1:j+1≤t.out.length:=by omega
   have HJW:=zhd (show wrap64 ((j:Int)+1)=(j:Int)+1 from by unfold wrap64;omega)
   have hfn:=hfj
   rw[bad_next hx]at hfn
   have HJ:=zh6 RJ hfn hBj hx hcur BWj
   clear hop RJ hfj hfn hBj hx hcur BWj hcf hgk
   go_wp2_with fail
   obtain⟨w5,hw5⟩:∃w5,w5=wr.alloc (.cells #[.int .i64 x.op,.int .i64 cn,.int .i64 x.line,.int .i64 vk,.int .i64 vn,.string vs,.slice va vl vc,.string x.label] 41):=⟨_,rfl⟩
   rw[←hw5]
   have X5:StB w5 wr.heap.size x.op cn x.line ⟨vk,vn,vs,va,vl,vc⟩ x.label:=by rw[hw5];exact heap_alloc_new _ _
   have B5:=zba hw5
   refine(OPC.out _).mono ?_
   rintro e w6 ⟨rfl,hB6⟩
   have B6:Below wr.heap.size wr w6:=Below.trans B5 (Below.mono hB6 B5.size)
   have X6:=X5.below hB6
   obtain⟨x0,x1,x2,x3,x4,x5,x6,x7,xf,xl⟩:=X6.all
   have R6:=RdS.below HJ.out.1 B6
   have B36:=HJ.out.2.2.1.trans (B6.mono HJ.out.2.2.1.size)
   have b6:=(B36.block w.heap.size lf).trans H3b.out.2.1
   have d0:=zfr b6 0
   have d1:=zfr b6 1
   have a0:=zca b6 0 rfl
   have a1:=zca b6 1 rfl
   have l6:=zlt b6
   obtain⟨g',off',c',he,hgl',_,hfz',_,q1,_⟩:=R6.out.at_ HJ.out.2.2.2.2.1
   cases he
   have HX6:=zh5 R6 B36 X6 B6 b6
   obtain⟨cn',hcn'⟩:∃k,c'.n=k:=⟨_,rfl⟩
   rw[hcn']at q1
   clear hw5 X5 B5 hB6 B6 X6 R6 B36 b6 hcn' e0 e1 e2 e3 e4 e5 e6 e7 hfz f0 f1 c0 c1 lr
   dsimp only at x3 x4 x5 x6
   obtain⟨kd,hkd⟩:∃kd,(ofL x.op).1.operand=kd:=⟨_,rfl⟩
   rw[hkd]at hb6⊢
   cases hk4:(kd==4)with
   |false=>
    have h116:(opC kd !=116)=true:=by rcases hb6 with rfl|rfl|rfl|rfl|rfl|rfl<;>first|rfl|cases hk4
    have hk4':(ofL x.op).1.operand≠4:=by rw[hkd];simpa using hk4
    have hfn:=HJ.out.2.1
    rw[if_neg (fun h=>hk4' h.1)]at hfn
    have R7:=HX6.out.1
    rw[cur_same HJ.out.2.2.2.1 hk4']at R7
    have H7:=zh2 hfn R7
    clear hfn R7 hk4 hk4' hb6 hkd
    go_wp2_with fail
    go_roundg (t.out.length - (j+1))
    case measure=>exact HMS.out
    case rel=>exact⟨j+1,by simp,hj1,rfl,H7.out.2,H7.out.1,HX6.out.2.1⟩
   |true=>
    have h116:(opC kd !=116)=false:=by rcases hb6 with rfl|rfl|rfl|rfl|rfl|rfl<;>first|rfl|cases hk4
    have hk4':(ofL x.op).1.operand=4:=by rw[hkd];simpa using hk4
    have HK4:=zhd hk4'
    clear hk4 hk4' hb6 hkd
    obtain⟨wo,rfl⟩:∃wo:World,wo=wr:=⟨_,rfl⟩
    have hg3:=(HX6.out.1.o5 g rfl).1
    have HW6:=zh4 (H3b.out.1.trans (HX6.out.2.1.mono H3b.out.1.size)) hg3 xl l6
    go_wp2_with fail
    go_loopg [255] (t.names.length) (fun gk v255 wy=>∃(m:Nat) (acc:Int),v255= .int .i64 m∧m≤t.names.length∧gk=t.names.length - m∧RdS w3.heap.size wy (.slice (some ⟨g,off,none⟩) t.out.length oc) (.slice na t.names.length nc) (.slice ta t.at_.length tc) {t with out:=((t.out.take j).map (fixF t)++t.out.drop j).set j {x with n:=acc}}∧lookN x.label (t.names.drop m) (t.at_.drop m) acc=fixN t x∧Keeps (fun q=>q=g) w6 wy)
    case atStart=>exact⟨0,-1,rfl,Nat.zero_le _,rfl,RdS.setN HX6.out.1 HJ.out.2.2.2.2.1 (-1),rfl,Keeps.setCell (S:=fun q=>q=g) (p:=⟨g,off+j*8+1,none⟩) (Keeps.refl _ _) (.inl rfl) _⟩
    case round=>
     clear q1 hfz' x0 x1 x2 x3 x4 x5 x6 x7 xf xl a0 a1 d0 d1 l6
     obtain⟨m,acc,rfl,hm,hgm,RM,hlk,hK⟩:=hrel
     have hset:(((t.out.take j).map (fixF t)++t.out.drop j).set j {x with n:=acc})[j]? =some {x with n:=acc}:=List.getElem?_set_self (by rw[cur_len (Nat.le_of_lt hjn)];exact hjn)
     obtain⟨g',off',c',he,hgl2,hcf,hfz2,_,q1,_⟩:=RM.out.at_ hset
     cases he
     have hcn:c'.n=acc:=hcf.n
     rw[hcn]at q1
     have X7:StB wr wo.heap.size x.op cn x.line ⟨vk,vn,vs,va,vl,vc⟩ x.label:=(hK.block wo.heap.size HW6.out.2.2.1 (fun e=>by have e:wo.heap.size=g:=e;omega)).trans HX6.out.2.2.1
     have x2:=X7.all.2.2.1
     have x7:=X7.all.2.2.2.2.2.2.2.1
     have xl:=X7.all.2.2.2.2.2.2.2.2.2
     have b7:=(hK.block w.heap.size HW6.out.2.2.2 (fun e=>by have e:w.heap.size=g:=e;have:=HW6.out.2.1;omega)).trans HX6.out.2.2.2.2
     have d0:=zfr b7 0
     have d1:=zfr b7 1
     have a0:=zca b7 0 rfl
     have a1:=zca b7 1 rfl
     have l7:=zlt b7
     clear b7 X7 hcn hcf
     by_cases hmn:m<t.names.length
     ·obtain⟨y,hy⟩:=elem_at hmn
      obtain⟨k,hk⟩:=elem_at (l:=t.at_) (k:=m) (by rw[←HT.out.2.2.2.1];exact hmn)
      obtain⟨ng,nf,rfl,ngl⟩:=RM.names.addr hy
      have n0:=row_str RM.names hy
      obtain⟨tg,tf,rfl,tgl⟩:=RM.at_.addr hk
      have t0:=row_int RM.at_ hk
      have hmn':(m:Int)<t.names.length:=by omega
      have hmt':(m:Int)<t.at_.length:=by have:=HT.out.2.2.2.1;omega
      have HMM:=zhd (show t.names.length - (m+1)<gk from by omega)
      have hm1:m+1≤t.names.length:=by omega
      have HMW:=zhd (show wrap64 ((m:Int)+1)=(m:Int)+1 from by unfold wrap64;omega)
      have hlk2:=hlk
      rw[look_next hy hk]at hlk2
      by_cases hyl:y=x.label
      ·have hcmp:(y.toList==x.label.toList)=true:=by rw[hyl];simp
       rw[if_pos hyl]at hlk2
       have RS2:=RdS.setN RM hset k
       rw[List.set_set]at RS2
       have KS:=Keeps.setCell (p:=⟨g,off+j*8+1,none⟩) hK (.inl rfl) (.int .i64 k)
       have HS2:=zh3 RS2 hlk2 KS
       clear RS2 hlk2 KS hlk hyl RM hK hset hgm hy hk hm
       go_wp2_with fail
       go_roundg (t.names.length - (m+1))
       case measure=>exact HMM.out
       case rel=>exact⟨m+1,k,by simp,hm1,rfl,HS2.out.1,HS2.out.2.1,HS2.out.2.2⟩
      ·have hcmp:(y.toList==x.label.toList)=false:=by
        rw[beq_eq_false_iff_ne,ByteArray.toList_eq,ByteArray.toList_eq]
        exact fun e=>hyl (bytes_inj.1 e)
       rw[if_neg hyl]at hlk2
       have HS2:=zh3 RM hlk2 hK
       clear hlk2 hlk hyl RM hK hset hgm hy hk hm
       go_wp2_with fail
       go_roundg (t.names.length - (m+1))
       case measure=>exact HMM.out
       case rel=>exact⟨m+1,acc,by simp,hm1,rfl,HS2.out.1,HS2.out.2.1,HS2.out.2.2⟩
     ·obtain rfl:m=t.names.length:=by omega
      have hmm':¬(t.names.length:Int)<t.names.length:=by omega
      have hacc:acc=fixN t x:=by
       rw[←hlk,List.drop_eq_nil_of_le (Nat.le_refl _)]
       cases t.at_.drop t.names.length<;>rfl
      subst hacc
      obtain⟨fx,hfx⟩:∃fx,fixN t x=fx:=⟨_,rfl⟩
      have hfn:=HJ.out.2.1
      rw[hfx]at hfn q1
      have BZ:Below w.heap.size w wr:=HW6.out.1.trans (Keeps.below hK HW6.out.1.size (fun jz hj e=>by have e:jz=g:=e;have:=HW6.out.2.1;omega))
      have B3Z:Below w3.heap.size w3 wr:=HX6.out.2.1.trans (Keeps.below hK HX6.out.2.1.size (fun jz hj e=>by have e:jz=g:=e;have:=HW6.out.2.1;omega))
      by_cases hlt:fx<0
      ·rw[if_pos ⟨HK4.out,.inl hlt⟩]at hfn
       have hre:=HT.out.1
       rw[←hfn]at hre
       have HR:=zhd (show(((x.line,120):Int×Int),([]:List SR))=r from hre)
       have HZ:=zhd BZ
       clear hre hfn BZ B3Z hfx RM hK hlk hset hgm hm
       go_wp2_with fail
       go_region
       all_goals
        go_wp2_with fail
        exact bodyPost_ret (v:=.tuple #[.slice none 0 0,.agg #[.int .i64 x.line,.int .i64 120]]) (by simp only[results,Tryz.results11];go_simp) rfl ⟨_,by rw[←HR.out],zhd ⟨by rw[←HR.out];exact SRow.nil _ _,(two_sets HZ.out _ _).drew⟩⟩
      ·by_cases heq:fx=(t.out.length:Int)
       ·rw[if_pos ⟨HK4.out,.inr heq⟩]at hfn
        have hre:=HT.out.1
        rw[←hfn]at hre
        have HR:=zhd (show(((x.line,120):Int×Int),([]:List SR))=r from hre)
        have HZ:=zhd BZ
        have heq':(fx==(t.out.length:Int))=true:=by rw[beq_iff_eq];exact heq
        clear hre hfn BZ B3Z hfx RM hK hlk hset hgm hm heq
        go_wp2_with fail
        go_region
        all_goals
         go_wp2_with fail
         exact bodyPost_ret (v:=.tuple #[.slice none 0 0,.agg #[.int .i64 x.line,.int .i64 120]]) (by simp only[results,Tryz.results11];go_simp) rfl ⟨_,by rw[←HR.out],zhd ⟨by rw[←HR.out];exact SRow.nil _ _,(two_sets HZ.out _ _).drew⟩⟩
       ·rw[if_neg (fun h=>h.2.elim hlt heq)]at hfn
        have heq':(fx==(t.out.length:Int))=false:=beq_eq_false_iff_ne.2 heq
        have hxf:({x with n:=fixN t x}:SR)=fixF t x:=by unfold fixF;rw[if_pos HK4.out]
        have R9:=RM
        rw[hxf,cur_set HJ.out.2.2.2.1]at R9
        have H9:=zh3 R9 hfn B3Z
        clear hfn BZ B3Z hfx RM hK hlk hset hgm hm heq hxf R9
        go_wp2_with fail
        go_roundg (t.out.length - (j+1))
        case measure=>exact HMS.out
        case rel=>exact⟨j+1,by simp,hj1,rfl,H9.out.1,H9.out.2.1,H9.out.2.2⟩
  ·obtain rfl:j=t.out.length:=by omega
   have hjj:¬(t.out.length:Int)<t.out.length:=by omega
   rw[List.drop_eq_nil_of_le (Nat.le_refl _),firstBad]at hfj
   have hre:=HT.out.1
   rw[←hfj]at hre
   have hre:(((0:Int),(0:Int)),t.out.map (fixF t))=r:=hre
   have R9:=RJ.out
   rw[List.take_length,List.drop_eq_nil_of_le (Nat.le_refl _),List.append_nil]at R9
   have HZ:=zh3 hre R9 BWj
   have ho5:=zhd (fun g h=>(RJ.o5 g h).1)
   clear hre hfj R9 RJ hBj BWj hgk
   go_wp2_with fail
   refine bodyPost_ret (v:=.tuple #[.slice oa t.out.length oc,.agg #[.int .i64 0,.int .i64 0]]) (by simp only[results,Tryz.results11];go_simp) rfl ⟨_,by rw[←HZ.out.1],zhd ⟨?_,two_sets HZ.out.2.2 _ _⟩⟩
   rw[←HZ.out.1]
   have K:=Keeps.setCell (S:=fun j=>j=w.heap.size) (p:=⟨w.heap.size,1,none⟩) (Keeps.setCell (S:=fun j=>j=w.heap.size) (p:=⟨w.heap.size,0,none⟩) (Keeps.refl _ wr) (.inl rfl) (.int .i64 0)) (.inl rfl) (.int .i64 0)
   exact(HZ.out.2.1.keep K (fun g h e=>by have e:g=w.heap.size:=e;have:=h.1;omega) (fun g hg e=>by have e:g=w.heap.size:=e;have:=ho5.out g hg;omega)).mono (fun g h _=>by have:=h.1;omega)
end Go.Proofs.YtakljipkaoahnaaGreatDoor
