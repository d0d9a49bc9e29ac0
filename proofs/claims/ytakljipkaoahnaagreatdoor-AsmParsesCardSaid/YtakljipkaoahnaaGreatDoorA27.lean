/- Parts of the proof: what the functions and the plain laws give that later parts lean on. Conditions: none beyond those that each theorem names. -/
import Derived.Test.YtakljipkaoahnaaGreatDoorA26
set_option maxRecDepth 100000
set_option maxHeartbeats 8000000
namespace Go.Proofs.YtakljipkaoahnaaGreatDoor
open Go.RowKit Go.Own Go.Own.MapTy Go.Va Go.Sort
open Go.Own.Cells (sz enc)
set_option linter.unusedVariables false
def seekC (t:Nat):Code→Option Code
 | .cond c x y=>match c with
   | .tmp k=>bif k==t then some (.cond (.tmp k) x y)else match seekC t x with
     |some c=>some c
     |none=>seekC t y
   |_=>match seekC t x with
    |some c=>some c
    |none=>seekC t y
 | .seq x y=>match seekC t x with
   |some c=>some c
   |none=>seekC t y
 | .block _ c=>seekC t c
 | .loop c=>seekC t c
 | .scope c=>seekC t c
 |_=>none
noncomputable def cC69:Code:=(Tryz.f11.body.bind (seekC 69)).getD .skip
set_option maxHeartbeats 80000000 in
theorem read_label (N0:Nat)(s:ByteArray)(w:World)(hs:s.size≤3000)(r:(Int×Int)×List SR)(init B:List ByteArray)(e1:((s.size:Nat):Int)≤65536)(w3:World)(lf:w.heap.size<w3.heap.size)(ac ag ao:Nat)(agl:ag<w3.heap.size)(n m:Nat)(H3b:Hid (RowKit.Below w.heap.size w w3∧w3.heap[w.heap.size]? =some (Obj.cells #[Value.int IntKind.i64 0,Value.int IntKind.i64 0] 30)∧RowAt w3 9 (Value.slice (some {block:=ag,off:=ao}) m ac) B∧∀(g:Nat),(Value.slice (some {block:=ag,off:=ao}) m ac).ownBlock=some g→w.heap.size+1≤g))(HN:Hid (init.length=n∧B.length=m∧m=n+1∧n+1≤3001))(HGL:Hid (Gl Tryz.prog N0 w∧(∀(x:ByteArray),x∈B→x.size≤3000)∧B=init++[(⟨#[]⟩:ByteArray)]∧(if init.length+1=1∨(⟨#[]⟩:ByteArray)≠(⟨#[]⟩:ByteArray)then((0,8),[])else readT init)=r))(HR:Hid (readT init=r∧RowAt w3 9 (Value.slice (some {block:=ag,off:=ao}) n ac) init))(Kz4:Act→World→Prop)(q:(Int×Int)×RT)(HQ:Hid (readL init 0 rt0=q))(gk:Nat)(u2 u5 u7 u8 u9 u10 u12 u13 u14 u15 u16 u17 u18 u69 u70 u71 u72 u170 u182 u198 u210:Value)(Jz:Nat→Act→World→Prop)(Kz3:Act→World→Prop)(az4:∀(k:Nat) (a':Act) (w':World),(∃u2 u5 u6 u7 u8 u9 u10 u12 u13 u14 u15 u16 u17 u18 u48 u49 u50 u51 u52 u53 u54 u55 u56 u57 u58 u59 u60 u61 u62 u63 u64 u65 u66 u67 u68 u69 u70 u71 u72 u73 u74 u75 u76 u77 u78 u79 u80 u81 u82 u83 u84 u85 u86 u87 u88 u89 u90 u91 u92 u93 u94 u95 u96 u97 u98 u99 u100 u101 u102 u103 u104 u105 u106 u107 u108 u109 u110 u111 u112 u113 u114 u115 u116 u117 u118 u119 u120 u121 u122 u123 u124 u125 u126 u127 u128 u129 u130 u131 u132 u133 u134 u135 u136 u137 u138 u139 u140 u141 u142 u143 u144 u145 u146 u147 u148 u149 u150 u151 u152 u153 u154 u155 u156 u157 u158 u159 u160 u161 u162 u163 u164 u165 u166 u167 u168 u169 u170 u171 u172 u173 u174 u175 u176 u177 u178 u179 u180 u181 u182 u183 u184 u185 u186 u187 u188 u189 u190 u191 u192 u193 u194 u195 u196 u197 u198 u199 u200 u201 u202 u203 u204 u205 u206 u207 u208 u209 u210 u211 u212 u213 u214 u215 u216 u217 u218 u219 u220 u221 u222 u223 u224 u225 u226 u227 u228 u229 u230 u231 u232 u233 u234 u235 u236 u237,RdRel w3 w3.heap.size n init q k u5 u6 u7 u48 w'∧a'={tmps:=#[Value.string s,undef,u2,Value.pointer (some {block:=w.heap.size,off:=0}),Value.slice (some {block:=ag,off:=ao}) m ac,u5,u6,u7,u8,u9,u10,undef,u12,u13,u14,u15,u16,u17,u18,undef,undef,undef,undef,Value.string s,Value.int IntKind.i64 ((s.size:Nat):Int),Value.bool false,undef,Value.string s,Value.slice (some {block:=ag,off:=ao}) m ac,Value.slice (some {block:=ag,off:=ao}) m ac,Value.slice (some {block:=ag,off:=ao}) m ac,Value.int IntKind.i64 ((m:Nat):Int),Value.int IntKind.i64 ((n:Nat):Int),Value.pointer (some {block:=ag,off:=ao+n}),Value.string (⟨#[]⟩:ByteArray),Value.bool false,Value.bool false,Value.slice (some {block:=ag,off:=ao}) m ac,Value.int IntKind.i64 ((m:Nat):Int),Value.bool false,Value.bool false,undef,Value.slice (some {block:=ag,off:=ao}) m ac,Value.slice (some {block:=ag,off:=ao}) m ac,Value.int IntKind.i64 ((m:Nat):Int),Value.int IntKind.i64 ((n:Nat):Int),Value.slice (some {block:=ag,off:=ao}) n ac,Value.int IntKind.i64 ((n:Nat):Int),u48,u49,u50,u51,u52,u53,u54,u55,u56,u57,u58,u59,u60,u61,u62,u63,u64,u65,u66,u67,u68,u69,u70,u71,u72,u73,u74,u75,u76,u77,u78,u79,u80,u81,u82,u83,u84,u85,u86,u87,u88,u89,u90,u91,u92,u93,u94,u95,u96,u97,u98,u99,u100,u101,u102,u103,u104,u105,u106,u107,u108,u109,u110,u111,u112,u113,u114,u115,u116,u117,u118,u119,u120,u121,u122,u123,u124,u125,u126,u127,u128,u129,u130,u131,u132,u133,u134,u135,u136,u137,u138,u139,u140,u141,u142,u143,u144,u145,u146,u147,u148,u149,u150,u151,u152,u153,u154,u155,u156,u157,u158,u159,u160,u161,u162,u163,u164,u165,u166,u167,u168,u169,u170,u171,u172,u173,u174,u175,u176,u177,u178,u179,u180,u181,u182,u183,u184,u185,u186,u187,u188,u189,u190,u191,u192,u193,u194,u195,u196,u197,u198,u199,u200,u201,u202,u203,u204,u205,u206,u207,u208,u209,u210,u211,u212,u213,u214,u215,u216,u217,u218,u219,u220,u221,u222,u223,u224,u225,u226,u227,u228,u229,u230,u231,u232,u233,u234,u235,u236,u237,undef,undef,undef,undef,undef,undef,undef,undef,undef,undef,undef,undef,undef,undef,undef,undef,undef,undef,undef,undef,undef,undef,undef,undef,undef,undef,undef,undef,undef,undef,undef,undef,undef,undef,undef,undef,undef,undef,undef,undef,undef,undef,undef,undef,undef,undef,undef,undef,undef,undef,undef,undef,undef,undef,undef,undef,undef],defers:=[]})→Jz k a' w')(az3:∀(a':Act) (w':World),Handed Jz gk a' w'→Kz3 a' w')(i:Nat)(t:RT)(hi:i≤n)(hin:i<n)(x:ByteArray)(hin':((i:Nat):Int)<((n:Nat):Int))(HMS:Hid (n - (i+1)<gk))(HIW:Hid (wrap64 (((i:Nat):Int)+1)=((i:Nat):Int)+1))(hi1:i+1≤n)(hi4:i≤4000)(hx64:x.size≤65536)(htn4:t.names.length≤4000)(hto4:t.out.length≤4000)(FA:Hid (∀(er:Int) (w:World),Calls Tryz.prog 39 #[Value.int IntKind.i64 ((i:Nat):Int),Value.int IntKind.i64 er] w fun e w'=>e=Ending.returned (Value.tuple #[Value.slice none 0 0,Value.agg #[Value.int IntKind.i64 (((i:Nat):Int)+1),Value.int IntKind.i64 er]])∧RowKit.Below w.heap.size w w'))(WD:Hid (∀(s:ByteArray) (w:World),s.size≤3000→Calls Tryz.prog 38 #[Value.string s] w fun e w'=>e=Ending.returned (Value.bool (labL s.data.toList))∧w'=w))(Kz2:Act→World→Prop)(az2:∀(a:Act) (w_1:World),Code.wp Tryz.prog cR51 (Exit.then Kz3 (Exit.inBlock 0 (Exit.then Kz4 (bodyPost Tryz.prog Tryz.f11 (RDPost w r))))) a w_1→Kz2 a w_1)(Kz1:Act→World→Prop)(Kz:Act→World→Prop)(az:∀(a:Act) (w_1:World),Code.wp Tryz.prog cC69 (Exit.then Kz1 (Exit.inBlock 1 (Exit.then Kz2 (Exit.then Kz3 (Exit.inBlock 0 (Exit.then Kz4 (bodyPost Tryz.prog Tryz.f11 (RDPost w r)))))))) a w_1→Kz a w_1)(wc:World)(u49 u50 u51 u52 u53 u54 u55 u56 u57 u58 u59 u60 u61 u62 u63 u64 u65 u66 u67 u68 u73 u74 u75 u76 u77 u78 u79 u80 u81 u82 u83 u84 u85 u86 u87 u88 u89 u90 u91 u92 u93 u94 u95 u96 u97 u98 u99 u100 u101 u102 u103 u104 u105 u106 u107 u108 u109 u110 u111 u112 u113 u114 u115 u116 u117 u118 u119 u120 u121 u122 u123 u124 u125 u126 u127 u128 u129 u130 u131 u132 u133 u134 u135 u136 u137 u138 u139 u140 u141 u142 u143 u144 u145 u146 u147 u148 u149 u150 u151 u152 u153 u154 u155 u156 u157 u158 u159 u160 u161 u162 u163 u164 u165 u166 u167 u168 u169 u171 u172 u173 u174 u175 u176 u177 u178 u179 u180 u181 u183 u184 u185 u186 u187 u188 u189 u190 u191 u192 u193 u194 u195 u196 u197 u199 u200 u201 u202 u203 u204 u205 u206 u207 u208 u209 u211 u212 u213 u214 u215 u216 u217 u218 u219 u220 u221 u222 u223 u224 u225 u226 u227 u228 u229 u230 u231 u232 u233 u234 u235 u236 u237:Value)(f0:wc.frozen? {block:=w.heap.size,off:=0}=false)(f1:wc.frozen? {block:=w.heap.size,off:=1}=false)(c0:wc.cell? {block:=w.heap.size,off:=0}=some (Value.int IntKind.i64 0))(c1:wc.cell? {block:=w.heap.size,off:=1}=some (Value.int IntKind.i64 0))(lr:w.heap.size<wc.heap.size)(y0:wc.cell? {block:=ag,off:=ao+i}=some (Value.string x))(agr:ag<wc.heap.size)(k:Nat)(HZ:Hid (((k:Nat):Int)=((x.size:Nat):Int) - 1))(hkx':((k:Nat):Int)<((x.size:Nat):Int))(hkle:((k:Nat):Int)≤((x.size:Nat):Int))(l:ByteArray)(HTR:Hid (x.extract 0 k=l∧readM i x t=if inN l t.names=true then(5,t)else(0,{names:=t.names++[l],at_:=t.at_++[((t.out.length:Nat):Int)],out:=t.out})))(na:Option Addr)(nc:Nat)(HS:Hid (gk=n - i∧RdS w3.heap.size wc u5 (Value.slice na t.names.length nc) u7 t∧t.names.length=t.at_.length∧(bif (readM i x t).fst !=0 then((((i:Nat):Int)+1,(readM i x t).fst),(readM i x t).snd)else readL (List.drop (i+1) init) (i+1) (readM i x t).snd)=q∧t.out.length≤i∧t.names.length≤i∧RowKit.Below w3.heap.size w3 wc∧RowKit.Below w.heap.size w wc∧x.size≤3000))(HN6:Hid (w3.heap.size≤wc.heap.size)):
  Kz {tmps:=#[Value.string s,undef,u2,Value.pointer (some {block:=w.heap.size,off:=0}),Value.slice (some {block:=ag,off:=ao}) m ac,u5,Value.slice na t.names.length nc,u7,Value.int IntKind.i64 ((i:Nat):Int),Value.string x,Value.int IntKind.i64 ((k:Nat):Int),undef,u12,u13,u14,u15,u16,u17,u18,undef,undef,undef,undef,Value.string s,Value.int IntKind.i64 ((s.size:Nat):Int),Value.bool false,undef,Value.string s,Value.slice (some {block:=ag,off:=ao}) m ac,Value.slice (some {block:=ag,off:=ao}) m ac,Value.slice (some {block:=ag,off:=ao}) m ac,Value.int IntKind.i64 ((m:Nat):Int),Value.int IntKind.i64 ((n:Nat):Int),Value.pointer (some {block:=ag,off:=ao+n}),Value.string (⟨#[]⟩:ByteArray),Value.bool false,Value.bool false,Value.slice (some {block:=ag,off:=ao}) m ac,Value.int IntKind.i64 ((m:Nat):Int),Value.bool false,Value.bool false,undef,Value.slice (some {block:=ag,off:=ao}) m ac,Value.slice (some {block:=ag,off:=ao}) m ac,Value.int IntKind.i64 ((m:Nat):Int),Value.int IntKind.i64 ((n:Nat):Int),Value.slice (some {block:=ag,off:=ao}) n ac,Value.int IntKind.i64 ((n:Nat):Int),Value.int IntKind.i64 ((i:Nat):Int),u49,u50,u51,u52,u53,u54,u55,u56,u57,u58,u59,u60,u61,u62,u63,u64,u65,u66,u67,u68,Value.bool true,u70,u71,u72,u73,u74,u75,u76,u77,u78,u79,u80,u81,u82,u83,u84,u85,u86,u87,u88,u89,u90,u91,u92,u93,u94,u95,u96,u97,u98,u99,u100,u101,u102,u103,u104,u105,u106,u107,u108,u109,u110,u111,u112,u113,u114,u115,u116,u117,u118,u119,u120,u121,u122,u123,u124,u125,u126,u127,u128,u129,u130,u131,u132,u133,u134,u135,u136,u137,u138,u139,u140,u141,u142,u143,u144,u145,u146,u147,u148,u149,u150,u151,u152,u153,u154,u155,u156,u157,u158,u159,u160,u161,u162,u163,u164,u165,u166,u167,u168,u169,u170,u171,u172,u173,u174,u175,u176,u177,u178,u179,u180,u181,u182,u183,u184,u185,u186,u187,u188,u189,u190,u191,u192,u193,u194,u195,u196,u197,u198,u199,u200,u201,u202,u203,u204,u205,u206,u207,u208,u209,u210,u211,u212,u213,u214,u215,u216,u217,u218,u219,u220,u221,u222,u223,u224,u225,u226,u227,u228,u229,u230,u231,u232,u233,u234,u235,u236,u237,undef,undef,undef,undef,undef,undef,undef,undef,undef,undef,undef,undef,undef,undef,undef,undef,undef,undef,undef,undef,undef,undef,undef,undef,undef,undef,undef,undef,undef,undef,undef,undef,undef,undef,undef,undef,undef,undef,undef,undef,undef,undef,undef,undef,undef,undef,undef,undef,undef,undef,undef,undef,undef,undef,undef,undef,undef],defers:=[]} wc:=by
 revert az az2
 conv=>arg 1;intro a w_1;arg 1;arg 2;whnf
 conv=>arg 2;arg 1;intro a w_1;arg 1;arg 2;whnf
 intro az az2
 try dsimp only
 go_wp2_with fail
 go_loopg [72] (t.names.length) (fun gk v72 wz=>∃j:Nat,v72= .int .i64 j∧j≤t.names.length∧gk=t.names.length - j∧(∀y∈t.names.take j,y≠l)∧wz=wc)
 case atStart=>exact⟨0,rfl,Nat.zero_le _,rfl,(fun y h=>by simp at h),rfl⟩
 case round=>
  obtain⟨j,rfl,hj,hgk,hno,rfl⟩:=hrel
  by_cases hjn:j<t.names.length
  ·obtain⟨y,hy⟩:=elem_at hjn
   obtain⟨ng,nf,rfl,ngl⟩:=HS.out.2.1.names.addr hy
   have n0:=row_str HS.out.2.1.names hy
   have hjn':(j:Int)<t.names.length:=by omega
   have HMJ:=zhd (show t.names.length - (j+1)<gk from by omega)
   have hj1:j+1≤t.names.length:=by omega
   have HJW:=zhd (show wrap64 ((j:Int)+1)=(j:Int)+1 from by unfold wrap64;omega)
   by_cases hyl:y=l
   ·have hcmp:(y.toList==(x.extract 0 k).toList)=true:=by rw[HTR.out.1,hyl];simp
    have hin:inN l t.names=true:=inN_iff.2 (hyl▸zmg hy)
    have hrd:=HTR.out.2
    rw[if_pos hin]at hrd
    have HE:=zhd (err_read (e:=5) HR.out.1 HQ.out HS.out.2.2.2.1 (by rw[hrd]) (by decide))
    have HFA:=zhd (FA.out 5 wr)
    clear hyl hin hrd hno hgk hy
    try dsimp only
    go_wp2_with fail
    refine HFA.out.mono ?_
    rintro e w5 ⟨rfl,hB5⟩
    have b5:=(hB5.block w.heap.size lr).trans ((HS.out.2.2.2.2.2.2.1.block w.heap.size lf).trans H3b.out.2.1)
    have HB5:=zhd (HS.out.2.2.2.2.2.2.2.1.trans (hB5.mono HS.out.2.2.2.2.2.2.2.1.size))
    have f0:=zfr b5 0
    have f1:=zfr b5 1
    have c0:=zca b5 0 rfl
    have c1:=zca b5 1 rfl
    have lr:=zlt b5
    clear b5 hB5
    try dsimp only
    go_wp2_with fail
    exact bodyPost_ret (v:=.tuple #[.slice none 0 0,.agg #[.int .i64 ((i:Int)+1),.int .i64 5]]) (by simp only[results,Tryz.results11];go_simp) rfl ⟨_,by rw[←HE.out],zhd ⟨by rw[←HE.out];exact SRow.nil _ _,two_sets HB5.out _ _⟩⟩
   ·have hcmp:(y.toList==(x.extract 0 k).toList)=false:=by
     rw[HTR.out.1,beq_eq_false_iff_ne,ByteArray.toList_eq,ByteArray.toList_eq]
     exact fun e=>hyl (bytes_inj.1 e)
    have hno2:∀z∈t.names.take (j+1),z≠l:=fun z hz=>by
     rw[List.take_add_one,hy]at hz
     rcases List.mem_append.1 hz with hz|hz
     ·exact hno z hz
     ·simp at hz;rw[hz];exact hyl
    have HO:=zhd hno2
    clear hno hno2 hyl hgk hy
    try dsimp only
    go_wp2_with fail
    go_roundg (t.names.length - (j+1))
    case measure=>exact HMJ.out
    case rel=>exact⟨j+1,by simp,hj1,rfl,HO.out,rfl⟩
  ·obtain rfl:j=t.names.length:=by omega
   have hjj:¬(t.names.length:Int)<t.names.length:=by omega
   rw[List.take_length]at hno
   have hin:¬inN l t.names=true:=fun h=>hno l (inN_iff.1 h) rfl
   have hrd:=HTR.out.2
   rw[if_neg hin]at hrd
   have HE:=zhd (ok_read HS.out.2.2.2.1 hrd)
   obtain⟨oa,oc,hv5⟩:=HS.out.2.1.out.slice
   obtain⟨ta,tc,hv7⟩:=HS.out.2.1.at_.slice
   subst hv5
   subst hv7
   have ht2:=HS.out.2.2.1
   have B1:(t.names.length+1)*16≤140737488355328:=by omega
   have B2:t.names.length+1≤maxLen:=by unfold maxLen;omega
   have B3:(t.at_.length+1)*8≤140737488355328:=by omega
   have B4:t.at_.length+1≤maxLen:=by unfold maxLen;omega
   have RA:=zhd ((HS.out.2.1.below ((Below.refl wr.heap.size wr).alloc (Nat.le_refl _) (.cells #[.string (x.extract 0 k)] 9))))
   clear hno hin hrd hgk ht2
   go_wp2_with (at_builtin;first|(refine wp_appW (α:=ByteArray) elemS rfl (.tmp 86) (.tmp 90) rfl RA.out.names (x.extract 0 k) rfl rfl (heap_alloc_new _ _) B1 B2 ?_;intro a1 q1 w8 hr1 hk1 hf1;have R8:=RA.out.put6 (by rw[alloc_sz'];have:=HN6.out;omega) hr1 hk1 hf1;have HK8:=zh2 R8 hk1;clear hr1 hk1 hf1 R8;have RB:=zhd (HK8.out.1.below ((Below.refl w8.heap.size w8).alloc (Nat.le_refl _) (.cells #[.int .i64 (t.out.length:Int)] 3))))|(refine wp_appW (α:=Int) elemI64 rfl (.tmp 92) (.tmp 95) rfl RB.out.at_ (t.out.length:Int) rfl rfl (heap_alloc_new _ _) B3 B4 ?_;intro a2 q2 w9 hr2 hk2 hf2;have HF2:=zh3 hr2 hk2 hf2;clear hr2 hk2 hf2))
   go_roundg (n - (i+1))
   case measure=>exact HMS.out
   case rel=>
    have hN8:w3.heap.size≤w8.heap.size:=by
     have h1:=HK8.out.2.size
     rw[alloc_sz']at h1
     have:=HN6.out
     omega
    have R9:=RB.out.put7 (by rw[alloc_sz'];omega) HF2.out.1 HF2.out.2.1 HF2.out.2.2
    rw[HTR.out.1]at R9
    refine⟨i+1,{t with names:=t.names++[l],at_:=t.at_++[(t.out.length:Int)]},by simp,hi1,rfl,R9,?_,HE.out,?_,?_,?_⟩
    ·show(t.names++[l]).length=(t.at_++[_]).length
     rw[List.length_append,List.length_append,HS.out.2.2.1]
     rfl
    ·show t.out.length≤i+1
     have:=HS.out.2.2.2.2.1
     omega
    ·show(t.names++[l]).length≤i+1
     rw[List.length_append]
     have:=HS.out.2.2.2.2.2.1
     simp
     omega
    ·have o6:=HS.out.2.1.o6
     have o7:=HS.out.2.1.o7
     refine HS.out.2.2.2.2.2.2.1.trans (((Below.refl _ _).alloc HN6.out _).trans ((HK8.out.2.below (by rw[alloc_sz'];have:=HN6.out;omega) (fun jz hj e=> ?_)).trans (((Below.refl _ _).alloc hN8 _).trans (HF2.out.2.1.below (by rw[alloc_sz'];omega) (fun jz hj e=> ?_)))))
     ·have:=(o6 jz e).1
      omega
     ·have:=o7 jz e
      omega
end Go.Proofs.YtakljipkaoahnaaGreatDoor
