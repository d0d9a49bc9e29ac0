/- Parts of the proof: what the functions and the plain laws give that later parts lean on. Conditions: none beyond those that each theorem names. -/
import Derived.Test.YtakljipkaoahnaaGreatDoorA25
set_option maxRecDepth 100000
set_option maxHeartbeats 8000000
namespace Go.Proofs.YtakljipkaoahnaaGreatDoor
open Go.RowKit Go.Own Go.Own.MapTy Go.Va Go.Sort
open Go.Own.Cells (sz enc)
set_option linter.unusedVariables false
noncomputable def cB8:Code:=(Tryz.f11.body.bind (seekB 8)).getD .skip
noncomputable def cR49:Code:=(Tryz.f11.body.bind (seekR 49)).getD .skip
noncomputable def cR50:Code:=(Tryz.f11.body.bind (seekR 50)).getD .skip
noncomputable def cR51:Code:=(Tryz.f11.body.bind (seekR 51)).getD .skip
set_option maxHeartbeats 80000000 in
theorem read_first (N0:Nat)(s:ByteArray)(w:World)(hs:s.size≤3000)(r:(Int×Int)×List SR)(init B:List ByteArray)(e1:((s.size:Nat):Int)≤65536)(w3:World)(lf:w.heap.size<w3.heap.size)(ac ag ao:Nat)(agl:ag<w3.heap.size)(n m:Nat)(H3b:Hid (RowKit.Below w.heap.size w w3∧w3.heap[w.heap.size]? =some (Obj.cells #[Value.int IntKind.i64 0,Value.int IntKind.i64 0] 30)∧RowAt w3 9 (Value.slice (some {block:=ag,off:=ao}) m ac) B∧∀(g:Nat),(Value.slice (some {block:=ag,off:=ao}) m ac).ownBlock=some g→w.heap.size+1≤g))(HN:Hid (init.length=n∧B.length=m∧m=n+1∧n+1≤3001))(HGL:Hid (Gl Tryz.prog N0 w∧(∀(x:ByteArray),x∈B→x.size≤3000)∧B=init++[(⟨#[]⟩:ByteArray)]∧(if init.length+1=1∨(⟨#[]⟩:ByteArray)≠(⟨#[]⟩:ByteArray)then((0,8),[])else readT init)=r))(y0:w3.cell? {block:=ag,off:=ao+n}=some (Value.string (⟨#[]⟩:ByteArray)))(HR:Hid (readT init=r∧RowAt w3 9 (Value.slice (some {block:=ag,off:=ao}) n ac) init))(Kz7:Act→World→Prop)(q:(Int×Int)×RT)(HQ:Hid (readL init 0 rt0=q))(gkz:Nat)(u2 u5 u6 u7 u8 u9 u10 u12 u13 u14 u15 u16 u17 u18 u70 u71 u72 u170 u182 u198 u210:Value)(Kz6:Act→World→Prop)(i:Nat)(t:RT)(hi:i≤n)(hin:i<n)(x:ByteArray)(hin':((i:Nat):Int)<((n:Nat):Int))(HMS:Hid (n - (i+1)<gkz))(HIW:Hid (wrap64 (((i:Nat):Int)+1)=((i:Nat):Int)+1))(hi1:i+1≤n)(hi4:i≤4000)(hx64:x.size≤65536)(htn4:t.names.length≤4000)(hto4:t.out.length≤4000)(FA:Hid (∀(er:Int) (w:World),Calls Tryz.prog 39 #[Value.int IntKind.i64 ((i:Nat):Int),Value.int IntKind.i64 er] w fun e w'=>e=Ending.returned (Value.tuple #[Value.slice none 0 0,Value.agg #[Value.int IntKind.i64 (((i:Nat):Int)+1),Value.int IntKind.i64 er]])∧RowKit.Below w.heap.size w w'))(WD:Hid (∀(s:ByteArray) (w:World),s.size≤3000→Calls Tryz.prog 38 #[Value.string s] w fun e w'=>e=Ending.returned (Value.bool (labL s.data.toList))∧w'=w))(z:Int)(HZ:Hid (z=((x.size:Nat):Int) - 1))(Kz5:Act→World→Prop)(u104 u49 u50 u51 u52 u53 u54 u55 u56 u57 u58 u59 u60 u61 u62 u63 u64 u65 u66 u67 u68 u69 u73 u74 u75 u76 u77 u78 u79 u80 u81 u82 u83 u84 u85 u86 u87 u88 u89 u90 u91 u92 u93 u94 u95 u96 u97 u98 u99 u100 u101 u102 u103 u105 u106 u107 u108 u109 u110 u123 u124 u125 u138 u139 u140 u141 u142 u143 u144 u145 u146 u147 u148 u149 u150 u151 u152 u153 u154 u155 u156 u157 u158 u159 u160 u161 u162 u163 u164 u165 u166 u167 u168 u169 u171 u172 u173 u174 u175 u176 u177 u178 u179 u180 u181 u183 u184 u185 u186 u187 u188 u189 u190 u191 u192 u193 u194 u195 u196 u197 u199 u200 u201 u202 u203 u204 u205 u206 u207 u208 u209 u211 u212 u213 u214 u215 u216 u217 u218 u219 u220 u221 u222 u223 u224 u225 u226 u227 u228 u229 u230 u231 u232 u233 u234 u235 u236 u237:Value)(u:ByteArray)(k0:Nat)(hu3:u.size≤3000)(hk0u:k0≤u.size)(HU:Hid (lineM x=lineI x∧cutN x=u.extract 0 k0∧cutR x=u.extract (k0+1) u.size∧cutM x=decide (k0<u.size)∧idx32 u.data.toList=k0∧u=x.extract 2 x.size))(h22:2≤((x.size:Nat):Int))(u111 u112 u113 u114 u115 u116 u117 u118 u119 u120 u121 u122:Value)(w14:World)(lr14:w.heap.size<w14.heap.size)(gk:Nat)(wr:World)(u126 u127 u128 u129 u130 u131 u132 u133 u134 u135 u136 u137:Value)(j op:Nat)(hop33:op<33)(HLF:Hid (((op:Nat):Int)=lastF (u.extract 0 k0) j∧33≤j∧j≤33))(kd:Int)(OPC:∀(w:World),Calls Tryz.prog 14 #[Value.int IntKind.i64 ((op:Nat):Int)] w fun e w'=>e=Ending.returned (Value.int IntKind.u8 (opC kd))∧RowKit.Below w.heap.size w w')(HLI:Hid (lineM x=if decide (k0<u.size)≠(kd !=0)then LM.bad 8 else if decide (k0<u.size)=true then operM (((op:Nat):Int)) kd (u.extract (k0+1) u.size)else LM.ins (((op:Nat):Int)) (Arg.int 0)))(HB6:Hid ((kd=0∨kd=1∨kd=2∨kd=3∨kd=4∨kd=5)∧(ofL ((op:Nat):Int)).fst.operand=kd))(hku:k0<u.size)(hku':((k0:Nat):Int)<((u.size:Nat):Int))(h45':(opC kd==45)=false)(h45n:(opC kd !=45)=true)(y:ByteArray)(hye:u.extract (k0+1) u.size=y)(hk1:((k0:Nat):Int)+1≤((u.size:Nat):Int))(hkw:IntKind.i64.wrap (((k0:Nat):Int)+1)=((k0+1:Nat):Int))(HY:Hid (lineM x=operM (((op:Nat):Int)) kd y∧stepR i x ((op:Nat):Int)={op:=((op:Nat):Int),n:=digL2 y.data.toList,line:=((i:Nat):Int)+1,v:=(parseV y.data.toList).fst,label:=y}∧y.size≤3000∧kd≠0))(hj33:33≤((j:Nat):Int))(hop0:0≤((op:Nat):Int))(w4:World)(Kz1:Act→World→Prop)(w5:World)(c:VC)(vv:Val)(er:Int)(H5:Hid (RowKit.Below w3.heap.size w3 w5∧CF (fun j=>w4.heap.size≤j) w5 c vv∧RowKit.Below w4.heap.size w4 w5∧parseV y.data.toList=(vv,er)))(lr5:w.heap.size<w5.heap.size)(w6:World)(H6:Hid (RowKit.Below w3.heap.size w3 w6∧RowKit.Below w5.heap.size w5 w6∧w6.heap[w5.heap.size]? =some (Obj.cells #[Value.int IntKind.i64 c.kind,Value.int IntKind.i64 c.n,Value.string c.s,Value.slice c.la c.ln c.lc] 39)))(v0:w6.cell? {block:=w5.heap.size,off:=0}=some (Value.int IntKind.i64 c.kind))(lv:w5.heap.size<w6.heap.size)(lr6:w.heap.size<w6.heap.size)(wq:World)(HS:Hid (gkz=n - i∧RdS w3.heap.size wq u5 u6 u7 t∧t.names.length=t.at_.length∧(bif (readM i x t).fst !=0 then((((i:Nat):Int)+1,(readM i x t).fst),(readM i x t).snd)else readL (List.drop (i+1) init) (i+1) (readM i x t).snd)=q∧t.out.length≤i∧t.names.length≤i∧RowKit.Below w3.heap.size w3 wq∧RowKit.Below w.heap.size w wq∧x.size≤3000))(HN6:Hid (w3.heap.size≤wq.heap.size))(H14:Hid (RowKit.Below wq.heap.size wq w14∧StB w14 wq.heap.size (-1) 0 (((i:Nat):Int)+1) {kind:=0,n:=0,s:=(⟨#[]⟩:ByteArray),la:=none,ln:=0,lc:=0} (⟨#[]⟩:ByteArray)∧RdS w3.heap.size w14 u5 u6 u7 t∧RowKit.Below w3.heap.size w3 w14))(RW:Hid (StB wr wq.heap.size (((op:Nat):Int)) 0 (((i:Nat):Int)+1) {kind:=0,n:=0,s:=(⟨#[]⟩:ByteArray),la:=none,ln:=0,lc:=0} (⟨#[]⟩:ByteArray)∧RowKit.Below wq.heap.size wq wr∧RdS w3.heap.size wr u5 u6 u7 t∧RowKit.Below w3.heap.size w3 wr∧RowKit.Below w.heap.size w wr))(H4:Hid (RowKit.Below w3.heap.size w3 w4∧RowKit.Below w.heap.size w w4∧RdS w3.heap.size w4 u5 u6 u7 t∧StB w4 wq.heap.size (((op:Nat):Int)) 0 (((i:Nat):Int)+1) {kind:=0,n:=0,s:=(⟨#[]⟩:ByteArray),la:=none,ln:=0,lc:=0} (⟨#[]⟩:ByteArray)))(H4B:Hid (RowKit.Below wq.heap.size wq w4))(Jz K'z:Act→World→Prop)(az1:∀(a':Act) (w':World),(∃u2 u49 u50 u51 u52 u53 u54 u55 u56 u57 u58 u59 u60 u61 u62 u63 u64 u65 u66 u67 u68 u69 u73 u74 u75 u76 u77 u78 u79 u80 u81 u82 u83 u84 u85 u86 u87 u88 u89 u90 u91 u92 u93 u94 u95 u96 u97 u98 u99 u100 u101 u102 u103 u104 u105 u106 u107 u108 u109 u110 u111 u112 u113 u114 u115 u116 u117 u118 u119 u120 u121 u122 u123 u124 u125 u126 u127 u128 u129 u130 u131 u132 u133 u134 u135 u136 u137 u138 u139 u140 u141 u142 u143 u144 u145 u146 u147 u148 u149 u150 u151 u152 u153 u154 u155 u156 u157 u158 u159 u160 u161 u162 u163 u164 u165 u166 u167 u168 u169 u170 u171 u172 u173 u174 u175 u176 u177 u178 u179 u180 u181 u182 u183 u184 u185 u186 u187 u188 u189 u190 u191 u192 u193 u194 u195 u196 u197 u198 u199 u200 u201 u202 u203 u204 u205 u206 u207 u208 u209 u210 u211 u212 u213 u214 u215 u216 u217 u218 u219 u220 u221 u222 u223 u224 u225 u226 u227 u228 u229 u230 u231 u232 u233 u234 u235 u236 u237,(RowKit.Below w6.heap.size w6 w'∧readM i x t=(0,{names:=t.names,at_:=t.at_,out:=t.out++[stepR i x ((op:Nat):Int)]}))∧a'={tmps:=#[Value.string s,undef,u2,Value.pointer (some {block:=w.heap.size,off:=0}),Value.slice (some {block:=ag,off:=ao}) m ac,u5,u6,u7,Value.int IntKind.i64 ((i:Nat):Int),Value.string y,Value.int IntKind.i64 z,undef,u12,Value.int IntKind.i64 ((k0:Nat):Int),Value.pointer (some {block:=wq.heap.size,off:=0}),Value.int IntKind.i64 ((j:Nat):Int),Value.int IntKind.u8 (opC kd),Value.pointer (some {block:=w5.heap.size,off:=0}),Value.int IntKind.i64 er,undef,undef,undef,undef,Value.string s,Value.int IntKind.i64 ((s.size:Nat):Int),Value.bool false,undef,Value.string s,Value.slice (some {block:=ag,off:=ao}) m ac,Value.slice (some {block:=ag,off:=ao}) m ac,Value.slice (some {block:=ag,off:=ao}) m ac,Value.int IntKind.i64 ((m:Nat):Int),Value.int IntKind.i64 ((n:Nat):Int),Value.pointer (some {block:=ag,off:=ao+n}),Value.string (⟨#[]⟩:ByteArray),Value.bool false,Value.bool false,Value.slice (some {block:=ag,off:=ao}) m ac,Value.int IntKind.i64 ((m:Nat):Int),Value.bool false,Value.bool false,undef,Value.slice (some {block:=ag,off:=ao}) m ac,Value.slice (some {block:=ag,off:=ao}) m ac,Value.int IntKind.i64 ((m:Nat):Int),Value.int IntKind.i64 ((n:Nat):Int),Value.slice (some {block:=ag,off:=ao}) n ac,Value.int IntKind.i64 ((n:Nat):Int),Value.int IntKind.i64 ((i:Nat):Int),u49,u50,u51,u52,u53,u54,u55,u56,u57,u58,u59,u60,u61,u62,u63,u64,u65,u66,u67,u68,u69,u70,u71,u72,u73,u74,u75,u76,u77,u78,u79,u80,u81,u82,u83,u84,u85,u86,u87,u88,u89,u90,u91,u92,u93,u94,u95,u96,u97,u98,u99,u100,u101,u102,u103,u104,u105,u106,u107,u108,u109,u110,u111,u112,u113,u114,u115,u116,u117,u118,u119,u120,u121,u122,u123,u124,u125,u126,u127,u128,u129,u130,u131,u132,u133,u134,u135,u136,u137,u138,u139,u140,u141,u142,u143,u144,u145,u146,u147,u148,u149,u150,u151,u152,u153,u154,u155,u156,u157,u158,u159,u160,u161,u162,u163,u164,u165,u166,u167,u168,u169,u170,u171,u172,u173,u174,u175,u176,u177,u178,u179,u180,u181,u182,u183,u184,u185,u186,u187,u188,u189,u190,u191,u192,u193,u194,u195,u196,u197,u198,u199,u200,u201,u202,u203,u204,u205,u206,u207,u208,u209,u210,u211,u212,u213,u214,u215,u216,u217,u218,u219,u220,u221,u222,u223,u224,u225,u226,u227,u228,u229,u230,u231,u232,u233,u234,u235,u236,u237,undef,undef,undef,undef,undef,undef,undef,undef,undef,undef,undef,undef,undef,undef,undef,undef,undef,undef,undef,undef,undef,undef,undef,undef,undef,undef,undef,undef,undef,undef,undef,undef,undef,undef,undef,undef,undef,undef,undef,undef,undef,undef,undef,undef,undef,undef,undef,undef,undef,undef,undef,undef,undef,undef,undef,undef,undef],defers:=[]})→Jz a' w')(az:∀(a':Act) (w':World),Met Jz a' w'→K'z a' w'):
  Code.wp Tryz.prog cB8 (Exit.then K'z (Exit.then Kz1 (Exit.inBlock 1 (Exit.then Kz5 (Exit.then Kz6 (Exit.inBlock 0 (Exit.then Kz7 (bodyPost Tryz.prog Tryz.f11 (RDPost w r))))))))) {tmps:=#[Value.string s,undef,u2,Value.pointer (some {block:=w.heap.size,off:=0}),Value.slice (some {block:=ag,off:=ao}) m ac,u5,u6,u7,Value.int IntKind.i64 ((i:Nat):Int),Value.string y,Value.int IntKind.i64 z,undef,u12,Value.int IntKind.i64 ((k0:Nat):Int),Value.pointer (some {block:=wq.heap.size,off:=0}),Value.int IntKind.i64 ((j:Nat):Int),Value.int IntKind.u8 (opC kd),Value.pointer (some {block:=w5.heap.size,off:=0}),Value.int IntKind.i64 er,undef,undef,undef,undef,Value.string s,Value.int IntKind.i64 ((s.size:Nat):Int),Value.bool false,undef,Value.string s,Value.slice (some {block:=ag,off:=ao}) m ac,Value.slice (some {block:=ag,off:=ao}) m ac,Value.slice (some {block:=ag,off:=ao}) m ac,Value.int IntKind.i64 ((m:Nat):Int),Value.int IntKind.i64 ((n:Nat):Int),Value.pointer (some {block:=ag,off:=ao+n}),Value.string (⟨#[]⟩:ByteArray),Value.bool false,Value.bool false,Value.slice (some {block:=ag,off:=ao}) m ac,Value.int IntKind.i64 ((m:Nat):Int),Value.bool false,Value.bool false,undef,Value.slice (some {block:=ag,off:=ao}) m ac,Value.slice (some {block:=ag,off:=ao}) m ac,Value.int IntKind.i64 ((m:Nat):Int),Value.int IntKind.i64 ((n:Nat):Int),Value.slice (some {block:=ag,off:=ao}) n ac,Value.int IntKind.i64 ((n:Nat):Int),Value.int IntKind.i64 ((i:Nat):Int),u49,u50,u51,u52,u53,u54,u55,u56,u57,u58,u59,u60,u61,u62,u63,u64,u65,u66,u67,u68,u69,u70,u71,u72,u73,u74,u75,u76,u77,u78,u79,u80,u81,u82,u83,u84,u85,u86,u87,u88,u89,u90,u91,u92,u93,u94,u95,u96,u97,u98,u99,u100,u101,u102,u103,Value.bool false,u105,u106,u107,u108,Value.string x,Value.string u,u111,u112,u113,u114,u115,u116,u117,u118,u119,u120,u121,u122,Value.int IntKind.i64 ((i:Nat):Int),Value.int IntKind.i64 (((i:Nat):Int)+1),Value.agg #[Value.int IntKind.i64 (-1),Value.int IntKind.i64 0,Value.int IntKind.i64 (((i:Nat):Int)+1),Value.int IntKind.i64 0,Value.int IntKind.i64 0,Value.string (⟨#[]⟩:ByteArray),Value.slice none 0 0,Value.string (⟨#[]⟩:ByteArray)],Value.int IntKind.i64 ((j:Nat):Int),Value.bool false,u128,u129,u130,u131,u132,u133,u134,u135,u136,u137,Value.pointer (some {block:=wq.heap.size,off:=0}),Value.int IntKind.i64 ((op:Nat):Int),Value.bool false,u141,u142,u143,u144,Value.pointer (some {block:=wq.heap.size,off:=0}),Value.int IntKind.i64 ((op:Nat):Int),Value.int IntKind.u8 (opC kd),Value.int IntKind.i64 ((k0:Nat):Int),Value.string u,Value.int IntKind.i64 ((u.size:Nat):Int),Value.bool true,Value.int IntKind.u8 (opC kd),Value.bool true,Value.bool false,u155,u156,u157,u158,Value.int IntKind.u8 (opC kd),Value.bool true,Value.string u,Value.int IntKind.i64 ((k0:Nat):Int),Value.int IntKind.i64 (((k0:Nat):Int)+1),Value.string y,Value.tuple #[Value.agg #[Value.int IntKind.i64 c.kind,Value.int IntKind.i64 c.n,Value.string c.s,Value.slice c.la c.ln c.lc],Value.int IntKind.i64 er],Value.string y,Value.tuple #[Value.agg #[Value.int IntKind.i64 c.kind,Value.int IntKind.i64 c.n,Value.string c.s,Value.slice c.la c.ln c.lc],Value.int IntKind.i64 er],Value.agg #[Value.int IntKind.i64 c.kind,Value.int IntKind.i64 c.n,Value.string c.s,Value.slice c.la c.ln c.lc],Value.int IntKind.i64 er,u170,u171,u172,u173,u174,u175,u176,u177,u178,u179,u180,u181,u182,u183,u184,u185,u186,u187,u188,u189,u190,u191,u192,u193,u194,u195,u196,u197,u198,u199,u200,u201,u202,u203,u204,u205,u206,u207,u208,u209,u210,u211,u212,u213,u214,u215,u216,u217,u218,u219,u220,u221,u222,u223,u224,u225,u226,u227,u228,u229,u230,u231,u232,u233,u234,u235,u236,u237,undef,undef,undef,undef,undef,undef,undef,undef,undef,undef,undef,undef,undef,undef,undef,undef,undef,undef,undef,undef,undef,undef,undef,undef,undef,undef,undef,undef,undef,undef,undef,undef,undef,undef,undef,undef,undef,undef,undef,undef,undef,undef,undef,undef,undef,undef,undef,undef,undef,undef,undef,undef,undef,undef,undef,undef,undef],defers:=[]} w6:=by
 conv=>arg 2;whnf
 have hkk:=HB6.out.1.resolve_left HY.out.2.2.2
 rcases hkk with rfl|rfl|rfl|rfl|rfl
 ·cases hez:(er !=0)with
  |true=>
   have hl:=HY.out.1
   unfold operM at hl
   have her:er≠0:=by simpa using hez
   rw[if_pos rfl,H5.out.2.2.2,if_pos her]at hl
   have hrd:readM i x t=(er,t):=by unfold readM;rw[hl]
   have HE:=zhd (err_read (e:=er) HR.out.1 HQ.out HS.out.2.2.2.1 (by rw[hrd]) her)
   clear hl hrd her
   focus
    try dsimp only
    go_wp2_with fail
    refine(FA.out er _).mono ?_
    rintro e w5 ⟨rfl,hB5⟩
    have b5:=(hB5.block w.heap.size lr6).trans ((H6.out.1.block w.heap.size lf).trans H3b.out.2.1)
    have HB5:=zhd (H3b.out.1.trans (((H6.out.1).trans (hB5.mono H6.out.1.size)).mono H3b.out.1.size))
    have f0:=zfr b5 0
    have f1:=zfr b5 1
    have c0:=zca b5 0 rfl
    have c1:=zca b5 1 rfl
    have lr:=zlt b5
    clear b5 hB5
    dsimp only
    go_wp2_with fail
    exact bodyPost_ret (v:=.tuple #[.slice none 0 0,.agg #[.int .i64 ((i:Int)+1),.int .i64 er]]) (by simp only[results,Tryz.results11];go_simp) rfl ⟨_,by rw[←HE.out],zhd ⟨by rw[←HE.out];exact SRow.nil _ _,two_sets HB5.out _ _⟩⟩
  |false=>
   have hl:=HY.out.1
   unfold operM at hl
   have her:er=0:=by simpa using hez
   rw[if_pos rfl,H5.out.2.2.2,if_neg (by simp[her])]at hl
   have hrd:readM i x t=(0,{t with out:=t.out++[stepR i x op]}):=by unfold readM;rw[hl]
   have HE:=zhd hrd
   clear hl hrd her
   try dsimp only
   go_wp2_with fail
   go_meet
   case rel=>exact⟨Below.refl _ _,HE.out⟩
 ·cases hez:(er !=0)with
  |true=>
   have hl:=HY.out.1
   unfold operM quotedL at hl
   have her:er≠0:=by simpa using hez
   rw[if_neg (by decide),if_pos rfl,H5.out.2.2.2,if_neg (fun h=>her h.1)]at hl
   have hrd:readM i x t=(8,t):=by unfold readM;rw[hl]
   have HE:=zhd (err_read (e:=8) HR.out.1 HQ.out HS.out.2.2.2.1 (by rw[hrd]) (by decide))
   clear hl hrd her
   focus
    try dsimp only
    go_wp2_with fail
    refine(FA.out 8 _).mono ?_
    rintro e w5 ⟨rfl,hB5⟩
    have b5:=(hB5.block w.heap.size lr6).trans ((H6.out.1.block w.heap.size lf).trans H3b.out.2.1)
    have HB5:=zhd (H3b.out.1.trans (((H6.out.1).trans (hB5.mono H6.out.1.size)).mono H3b.out.1.size))
    have f0:=zfr b5 0
    have f1:=zfr b5 1
    have c0:=zca b5 0 rfl
    have c1:=zca b5 1 rfl
    have lr:=zlt b5
    clear b5 hB5
    dsimp only
    go_wp2_with fail
    exact bodyPost_ret (v:=.tuple #[.slice none 0 0,.agg #[.int .i64 ((i:Int)+1),.int .i64 8]]) (by simp only[results,Tryz.results11];go_simp) rfl ⟨_,by rw[←HE.out],zhd ⟨by rw[←HE.out];exact SRow.nil _ _,two_sets HB5.out _ _⟩⟩
  |false=>
   have her:er=0:=by simpa using hez
   subst her
   have hck:=H5.out.2.1.kind
   cases hk2:(c.kind !=2)with
   |true=>
    have hl:=HY.out.1
    unfold operM quotedL at hl
    have hne:vv.kind≠2:=by rw[←hck];simpa using hk2
    rw[if_neg (by decide),if_pos rfl,H5.out.2.2.2,if_neg (fun h=>hne h.2)]at hl
    have hrd:readM i x t=(8,t):=by unfold readM;rw[hl]
    have HE:=zhd (err_read (e:=8) HR.out.1 HQ.out HS.out.2.2.2.1 (by rw[hrd]) (by decide))
    clear hl hrd hne hck
    focus
     try dsimp only
     go_wp2_with fail
     refine(FA.out 8 _).mono ?_
     rintro e w5 ⟨rfl,hB5⟩
     have b5:=(hB5.block w.heap.size lr6).trans ((H6.out.1.block w.heap.size lf).trans H3b.out.2.1)
     have HB5:=zhd (H3b.out.1.trans (((H6.out.1).trans (hB5.mono H6.out.1.size)).mono H3b.out.1.size))
     have f0:=zfr b5 0
     have f1:=zfr b5 1
     have c0:=zca b5 0 rfl
     have c1:=zca b5 1 rfl
     have lr:=zlt b5
     clear b5 hB5
     dsimp only
     go_wp2_with fail
     exact bodyPost_ret (v:=.tuple #[.slice none 0 0,.agg #[.int .i64 ((i:Int)+1),.int .i64 8]]) (by simp only[results,Tryz.results11];go_simp) rfl ⟨_,by rw[←HE.out],zhd ⟨by rw[←HE.out];exact SRow.nil _ _,two_sets HB5.out _ _⟩⟩
   |false=>
    have hl:=HY.out.1
    unfold operM quotedL at hl
    have hke:vv.kind=2:=by rw[←hck];simpa using hk2
    rw[if_neg (by decide),if_pos rfl,H5.out.2.2.2,if_pos ⟨rfl,hke⟩]at hl
    have hrd:readM i x t=(0,{t with out:=t.out++[stepR i x op]}):=by unfold readM;rw[hl]
    have HE:=zhd hrd
    clear hl hrd hke hck
    try dsimp only
    go_wp2_with fail
    go_meet
    case rel=>exact⟨Below.refl _ _,HE.out⟩
 ·cases hdg:decide (digL2 y.data.toList<0)with
  |true=>
   have hl:=HY.out.1
   unfold operM at hl
   have hdn:=digL2_number y.data.toList
   have hd0:digL2 y.data.toList<0:=of_decide_eq_true hdg
   rw[if_neg (by decide),if_neg (by decide),if_neg (by decide)]at hl
   have hnn:numberL y.data.toList=none:=by
    cases hn:numberL y.data.toList with
    |none=>rfl
    |some k=>exfalso;rw[hn]at hdn;have hdn:digL2 y.data.toList=(k:Int):=hdn;rw[hdn]at hd0;exact absurd hd0 (Int.not_lt.2 (Int.natCast_nonneg k))
   rw[hnn]at hl
   have hrd:readM i x t=(8,t):=by unfold readM;rw[hl]
   have HE:=zhd (err_read (e:=8) HR.out.1 HQ.out HS.out.2.2.2.1 (by rw[hrd]) (by decide))
   have DG:=zhd (fun w=>ldigits_any y w)
   obtain⟨dv,hdv⟩:∃dv,digL2 y.data.toList=dv:=⟨_,rfl⟩
   rw[hdv]at DG hd0
   clear hl hrd hdn hnn hdg hdv
   focus
    try dsimp only
    go_wp2_with fail
    refine(DG.out _).mono ?_
    rintro e w7 ⟨rfl,hB6⟩
    have H7:=zhd (Below.trans H6.out.1 (Below.mono hB6 H6.out.1.size))
    have lr7:w.heap.size<w7.heap.size:=Nat.lt_of_lt_of_le lf H7.out.size
    clear hB6
    try dsimp only
    go_wp2_with fail
    refine(FA.out 8 _).mono ?_
    rintro e w5 ⟨rfl,hB5⟩
    have b5:=(hB5.block w.heap.size lr7).trans ((H7.out.block w.heap.size lf).trans H3b.out.2.1)
    have HB5:=zhd (H3b.out.1.trans (((H7.out).trans (hB5.mono H7.out.size)).mono H3b.out.1.size))
    have f0:=zfr b5 0
    have f1:=zfr b5 1
    have c0:=zca b5 0 rfl
    have c1:=zca b5 1 rfl
    have lr:=zlt b5
    clear b5 hB5
    dsimp only
    go_wp2_with fail
    exact bodyPost_ret (v:=.tuple #[.slice none 0 0,.agg #[.int .i64 ((i:Int)+1),.int .i64 8]]) (by simp only[results,Tryz.results11];go_simp) rfl ⟨_,by rw[←HE.out],zhd ⟨by rw[←HE.out];exact SRow.nil _ _,two_sets HB5.out _ _⟩⟩
  |false=>
   have hl:=HY.out.1
   unfold operM at hl
   have hdn:=digL2_number y.data.toList
   have hd0:¬digL2 y.data.toList<0:=of_decide_eq_false hdg
   rw[if_neg (by decide),if_neg (by decide),if_neg (by decide)]at hl
   obtain⟨nk,hnn⟩:∃nk,numberL y.data.toList=some nk:=by
    cases hn:numberL y.data.toList with
    |none=>exfalso;rw[hn]at hdn;have hdn:digL2 y.data.toList= -1:=hdn;rw[hdn]at hd0;exact hd0 (by decide)
    |some k=>exact⟨k,rfl⟩
   rw[hnn]at hl
   dsimp only at hl
   have hrd:readM i x t=(0,{t with out:=t.out++[stepR i x op]}):=by unfold readM;rw[hl]
   have HE:=zhd hrd
   have DG:=zhd (fun w=>ldigits_any y w)
   obtain⟨dv,hdv⟩:∃dv,digL2 y.data.toList=dv:=⟨_,rfl⟩
   rw[hdv]at DG hd0
   clear hl hrd hdn hnn hdg hdv
   try dsimp only
   go_wp2_with fail
   refine(DG.out _).mono ?_
   rintro e w7 ⟨rfl,hB6⟩
   have H7:=zhd hB6
   clear hB6
   try dsimp only
   go_wp2_with fail
   go_meet
   case rel=>exact⟨H7.out,HE.out⟩
 ·cases hlb:labL y.data.toList with
  |false=>
   have hl:=HY.out.1
   unfold operM at hl
   rw[if_neg (by decide),if_neg (by decide),if_pos rfl,hlb,if_neg (by simp)]at hl
   have hrd:readM i x t=(8,t):=by unfold readM;rw[hl]
   have HE:=zhd (err_read (e:=8) HR.out.1 HQ.out HS.out.2.2.2.1 (by rw[hrd]) (by decide))
   have WY:=WD.out y
   rw[hlb]at WY
   have WY:=zhd (fun w=>WY w HY.out.2.2.1)
   clear hl hrd hlb
   focus
    try dsimp only
    go_wp2_with fail
    refine(WY.out _).mono ?_
    rintro e w7 ⟨rfl,hw⟩
    rw[hw]
    clear hw w7
    try dsimp only
    go_wp2_with fail
    refine(FA.out 8 _).mono ?_
    rintro e w5 ⟨rfl,hB5⟩
    have b5:=(hB5.block w.heap.size lr6).trans ((H6.out.1.block w.heap.size lf).trans H3b.out.2.1)
    have HB5:=zhd (H3b.out.1.trans (((H6.out.1).trans (hB5.mono H6.out.1.size)).mono H3b.out.1.size))
    have f0:=zfr b5 0
    have f1:=zfr b5 1
    have c0:=zca b5 0 rfl
    have c1:=zca b5 1 rfl
    have lr:=zlt b5
    clear b5 hB5
    dsimp only
    go_wp2_with fail
    exact bodyPost_ret (v:=.tuple #[.slice none 0 0,.agg #[.int .i64 ((i:Int)+1),.int .i64 8]]) (by simp only[results,Tryz.results11];go_simp) rfl ⟨_,by rw[←HE.out],zhd ⟨by rw[←HE.out];exact SRow.nil _ _,two_sets HB5.out _ _⟩⟩
  |true=>
   have hl:=HY.out.1
   unfold operM at hl
   rw[if_neg (by decide),if_neg (by decide),if_pos rfl,hlb,if_pos rfl]at hl
   have hrd:readM i x t=(0,{t with out:=t.out++[stepR i x op]}):=by unfold readM;rw[hl]
   have HE:=zhd hrd
   have WY:=WD.out y
   rw[hlb]at WY
   have WY:=zhd (fun w=>WY w HY.out.2.2.1)
   clear hl hrd hlb
   try dsimp only
   go_wp2_with fail
   refine(WY.out _).mono ?_
   rintro e w7 ⟨rfl,hw⟩
   rw[hw]
   clear hw w7
   try dsimp only
   go_wp2_with fail
   go_meet
   case rel=>exact⟨Below.refl _ _,HE.out⟩
 ·cases hdg:decide (digL2 y.data.toList<0)with
  |true=>
   have hl:=HY.out.1
   unfold operM at hl
   have hdn:=digL2_number y.data.toList
   have hd0:digL2 y.data.toList<0:=of_decide_eq_true hdg
   rw[if_neg (by decide),if_neg (by decide),if_neg (by decide)]at hl
   have hnn:numberL y.data.toList=none:=by
    cases hn:numberL y.data.toList with
    |none=>rfl
    |some k=>exfalso;rw[hn]at hdn;have hdn:digL2 y.data.toList=(k:Int):=hdn;rw[hdn]at hd0;exact absurd hd0 (Int.not_lt.2 (Int.natCast_nonneg k))
   rw[hnn]at hl
   have hrd:readM i x t=(8,t):=by unfold readM;rw[hl]
   have HE:=zhd (err_read (e:=8) HR.out.1 HQ.out HS.out.2.2.2.1 (by rw[hrd]) (by decide))
   have DG:=zhd (fun w=>ldigits_any y w)
   obtain⟨dv,hdv⟩:∃dv,digL2 y.data.toList=dv:=⟨_,rfl⟩
   rw[hdv]at DG hd0
   clear hl hrd hdn hnn hdg hdv
   focus
    try dsimp only
    go_wp2_with fail
    refine(DG.out _).mono ?_
    rintro e w7 ⟨rfl,hB6⟩
    have H7:=zhd (Below.trans H6.out.1 (Below.mono hB6 H6.out.1.size))
    have lr7:w.heap.size<w7.heap.size:=Nat.lt_of_lt_of_le lf H7.out.size
    clear hB6
    try dsimp only
    go_wp2_with fail
    refine(FA.out 8 _).mono ?_
    rintro e w5 ⟨rfl,hB5⟩
    have b5:=(hB5.block w.heap.size lr7).trans ((H7.out.block w.heap.size lf).trans H3b.out.2.1)
    have HB5:=zhd (H3b.out.1.trans (((H7.out).trans (hB5.mono H7.out.size)).mono H3b.out.1.size))
    have f0:=zfr b5 0
    have f1:=zfr b5 1
    have c0:=zca b5 0 rfl
    have c1:=zca b5 1 rfl
    have lr:=zlt b5
    clear b5 hB5
    dsimp only
    go_wp2_with fail
    exact bodyPost_ret (v:=.tuple #[.slice none 0 0,.agg #[.int .i64 ((i:Int)+1),.int .i64 8]]) (by simp only[results,Tryz.results11];go_simp) rfl ⟨_,by rw[←HE.out],zhd ⟨by rw[←HE.out];exact SRow.nil _ _,two_sets HB5.out _ _⟩⟩
  |false=>
   have hl:=HY.out.1
   unfold operM at hl
   have hdn:=digL2_number y.data.toList
   have hd0:¬digL2 y.data.toList<0:=of_decide_eq_false hdg
   rw[if_neg (by decide),if_neg (by decide),if_neg (by decide)]at hl
   obtain⟨nk,hnn⟩:∃nk,numberL y.data.toList=some nk:=by
    cases hn:numberL y.data.toList with
    |none=>exfalso;rw[hn]at hdn;have hdn:digL2 y.data.toList= -1:=hdn;rw[hdn]at hd0;exact hd0 (by decide)
    |some k=>exact⟨k,rfl⟩
   rw[hnn]at hl
   dsimp only at hl
   have hrd:readM i x t=(0,{t with out:=t.out++[stepR i x op]}):=by unfold readM;rw[hl]
   have HE:=zhd hrd
   have DG:=zhd (fun w=>ldigits_any y w)
   obtain⟨dv,hdv⟩:∃dv,digL2 y.data.toList=dv:=⟨_,rfl⟩
   rw[hdv]at DG hd0
   clear hl hrd hdn hnn hdg hdv
   try dsimp only
   go_wp2_with fail
   refine(DG.out _).mono ?_
   rintro e w7 ⟨rfl,hB6⟩
   have H7:=zhd hB6
   clear hB6
   try dsimp only
   go_wp2_with fail
   go_meet
   case rel=>exact⟨H7.out,HE.out⟩
set_option maxHeartbeats 80000000 in
theorem read_rest (N0:Nat)(s:ByteArray)(w:World)(hs:s.size≤3000)(r:(Int×Int)×List SR)(init B:List ByteArray)(e1:((s.size:Nat):Int)≤65536)(w3:World)(lf:w.heap.size<w3.heap.size)(ac ag ao:Nat)(agl:ag<w3.heap.size)(n m:Nat)(H3b:Hid (RowKit.Below w.heap.size w w3∧w3.heap[w.heap.size]? =some (Obj.cells #[Value.int IntKind.i64 0,Value.int IntKind.i64 0] 30)∧RowAt w3 9 (Value.slice (some {block:=ag,off:=ao}) m ac) B∧∀(g:Nat),(Value.slice (some {block:=ag,off:=ao}) m ac).ownBlock=some g→w.heap.size+1≤g))(HN:Hid (init.length=n∧B.length=m∧m=n+1∧n+1≤3001))(HGL:Hid (Gl Tryz.prog N0 w∧(∀(x:ByteArray),x∈B→x.size≤3000)∧B=init++[(⟨#[]⟩:ByteArray)]∧(if init.length+1=1∨(⟨#[]⟩:ByteArray)≠(⟨#[]⟩:ByteArray)then((0,8),[])else readT init)=r))(y0:w3.cell? {block:=ag,off:=ao+n}=some (Value.string (⟨#[]⟩:ByteArray)))(HR:Hid (readT init=r∧RowAt w3 9 (Value.slice (some {block:=ag,off:=ao}) n ac) init))(Kz7:Act→World→Prop)(q:(Int×Int)×RT)(HQ:Hid (readL init 0 rt0=q))(gkz:Nat)(u5 u6 u7 u8 u9 u10 u12 u13 u14 u15 u16 u17 u18 u70 u71 u72:Value)(Jz1:Nat→Act→World→Prop)(Kz6:Act→World→Prop)(az7:∀(k:Nat) (a':Act) (w':World),(∃u2 u5 u6 u7 u8 u9 u10 u12 u13 u14 u15 u16 u17 u18 u48 u49 u50 u51 u52 u53 u54 u55 u56 u57 u58 u59 u60 u61 u62 u63 u64 u65 u66 u67 u68 u69 u70 u71 u72 u73 u74 u75 u76 u77 u78 u79 u80 u81 u82 u83 u84 u85 u86 u87 u88 u89 u90 u91 u92 u93 u94 u95 u96 u97 u98 u99 u100 u101 u102 u103 u104 u105 u106 u107 u108 u109 u110 u111 u112 u113 u114 u115 u116 u117 u118 u119 u120 u121 u122 u123 u124 u125 u126 u127 u128 u129 u130 u131 u132 u133 u134 u135 u136 u137 u138 u139 u140 u141 u142 u143 u144 u145 u146 u147 u148 u149 u150 u151 u152 u153 u154 u155 u156 u157 u158 u159 u160 u161 u162 u163 u164 u165 u166 u167 u168 u169 u170 u171 u172 u173 u174 u175 u176 u177 u178 u179 u180 u181 u182 u183 u184 u185 u186 u187 u188 u189 u190 u191 u192 u193 u194 u195 u196 u197 u198 u199 u200 u201 u202 u203 u204 u205 u206 u207 u208 u209 u210 u211 u212 u213 u214 u215 u216 u217 u218 u219 u220 u221 u222 u223 u224 u225 u226 u227 u228 u229 u230 u231 u232 u233 u234 u235 u236 u237,RdRel w3 w3.heap.size n init q k u5 u6 u7 u48 w'∧a'={tmps:=#[Value.string s,undef,u2,Value.pointer (some {block:=w.heap.size,off:=0}),Value.slice (some {block:=ag,off:=ao}) m ac,u5,u6,u7,u8,u9,u10,undef,u12,u13,u14,u15,u16,u17,u18,undef,undef,undef,undef,Value.string s,Value.int IntKind.i64 ((s.size:Nat):Int),Value.bool false,undef,Value.string s,Value.slice (some {block:=ag,off:=ao}) m ac,Value.slice (some {block:=ag,off:=ao}) m ac,Value.slice (some {block:=ag,off:=ao}) m ac,Value.int IntKind.i64 ((m:Nat):Int),Value.int IntKind.i64 ((n:Nat):Int),Value.pointer (some {block:=ag,off:=ao+n}),Value.string (⟨#[]⟩:ByteArray),Value.bool false,Value.bool false,Value.slice (some {block:=ag,off:=ao}) m ac,Value.int IntKind.i64 ((m:Nat):Int),Value.bool false,Value.bool false,undef,Value.slice (some {block:=ag,off:=ao}) m ac,Value.slice (some {block:=ag,off:=ao}) m ac,Value.int IntKind.i64 ((m:Nat):Int),Value.int IntKind.i64 ((n:Nat):Int),Value.slice (some {block:=ag,off:=ao}) n ac,Value.int IntKind.i64 ((n:Nat):Int),u48,u49,u50,u51,u52,u53,u54,u55,u56,u57,u58,u59,u60,u61,u62,u63,u64,u65,u66,u67,u68,u69,u70,u71,u72,u73,u74,u75,u76,u77,u78,u79,u80,u81,u82,u83,u84,u85,u86,u87,u88,u89,u90,u91,u92,u93,u94,u95,u96,u97,u98,u99,u100,u101,u102,u103,u104,u105,u106,u107,u108,u109,u110,u111,u112,u113,u114,u115,u116,u117,u118,u119,u120,u121,u122,u123,u124,u125,u126,u127,u128,u129,u130,u131,u132,u133,u134,u135,u136,u137,u138,u139,u140,u141,u142,u143,u144,u145,u146,u147,u148,u149,u150,u151,u152,u153,u154,u155,u156,u157,u158,u159,u160,u161,u162,u163,u164,u165,u166,u167,u168,u169,u170,u171,u172,u173,u174,u175,u176,u177,u178,u179,u180,u181,u182,u183,u184,u185,u186,u187,u188,u189,u190,u191,u192,u193,u194,u195,u196,u197,u198,u199,u200,u201,u202,u203,u204,u205,u206,u207,u208,u209,u210,u211,u212,u213,u214,u215,u216,u217,u218,u219,u220,u221,u222,u223,u224,u225,u226,u227,u228,u229,u230,u231,u232,u233,u234,u235,u236,u237,undef,undef,undef,undef,undef,undef,undef,undef,undef,undef,undef,undef,undef,undef,undef,undef,undef,undef,undef,undef,undef,undef,undef,undef,undef,undef,undef,undef,undef,undef,undef,undef,undef,undef,undef,undef,undef,undef,undef,undef,undef,undef,undef,undef,undef,undef,undef,undef,undef,undef,undef,undef,undef,undef,undef,undef,undef],defers:=[]})→Jz1 k a' w')(az6:∀(a':Act) (w':World),Handed Jz1 gkz a' w'→Kz6 a' w')(i:Nat)(t:RT)(hi:i≤n)(hin:i<n)(x:ByteArray)(hin':((i:Nat):Int)<((n:Nat):Int))(HMS:Hid (n - (i+1)<gkz))(HIW:Hid (wrap64 (((i:Nat):Int)+1)=((i:Nat):Int)+1))(hi1:i+1≤n)(hi4:i≤4000)(hx64:x.size≤65536)(htn4:t.names.length≤4000)(hto4:t.out.length≤4000)(FA:Hid (∀(er:Int) (w:World),Calls Tryz.prog 39 #[Value.int IntKind.i64 ((i:Nat):Int),Value.int IntKind.i64 er] w fun e w'=>e=Ending.returned (Value.tuple #[Value.slice none 0 0,Value.agg #[Value.int IntKind.i64 (((i:Nat):Int)+1),Value.int IntKind.i64 er]])∧RowKit.Below w.heap.size w w'))(WD:Hid (∀(s:ByteArray) (w:World),s.size≤3000→Calls Tryz.prog 38 #[Value.string s] w fun e w'=>e=Ending.returned (Value.bool (labL s.data.toList))∧w'=w))(z:Int)(HZ:Hid (z=((x.size:Nat):Int) - 1))(Kz5:Act→World→Prop)(az5:∀(a:Act) (w_1:World),Code.wp Tryz.prog cR51 (Exit.then Kz6 (Exit.inBlock 0 (Exit.then Kz7 (bodyPost Tryz.prog Tryz.f11 (RDPost w r))))) a w_1→Kz5 a w_1)(u:ByteArray)(k0:Nat)(hu3:u.size≤3000)(hk0u:k0≤u.size)(HU:Hid (lineM x=lineI x∧cutN x=u.extract 0 k0∧cutR x=u.extract (k0+1) u.size∧cutM x=decide (k0<u.size)∧idx32 u.data.toList=k0∧u=x.extract 2 x.size))(h22:2≤((x.size:Nat):Int))(w14:World)(lr14:w.heap.size<w14.heap.size)(gk:Nat)(wr:World)(j op:Nat)(hop33:op<33)(HLF:Hid (((op:Nat):Int)=lastF (u.extract 0 k0) j∧33≤j∧j≤33))(kd:Int)(OPC:∀(w:World),Calls Tryz.prog 14 #[Value.int IntKind.i64 ((op:Nat):Int)] w fun e w'=>e=Ending.returned (Value.int IntKind.u8 (opC kd))∧RowKit.Below w.heap.size w w')(HLI:Hid (lineM x=if decide (k0<u.size)≠(kd !=0)then LM.bad 8 else if decide (k0<u.size)=true then operM (((op:Nat):Int)) kd (u.extract (k0+1) u.size)else LM.ins (((op:Nat):Int)) (Arg.int 0)))(HB6:Hid ((kd=0∨kd=1∨kd=2∨kd=3∨kd=4∨kd=5)∧(ofL ((op:Nat):Int)).fst.operand=kd))(hku:k0<u.size)(hku':((k0:Nat):Int)<((u.size:Nat):Int))(h45':(opC kd==45)=false)(h45n:(opC kd !=45)=true)(y:ByteArray)(hye:u.extract (k0+1) u.size=y)(hk1:((k0:Nat):Int)+1≤((u.size:Nat):Int))(hkw:IntKind.i64.wrap (((k0:Nat):Int)+1)=((k0+1:Nat):Int))(HY:Hid (lineM x=operM (((op:Nat):Int)) kd y∧stepR i x ((op:Nat):Int)={op:=((op:Nat):Int),n:=digL2 y.data.toList,line:=((i:Nat):Int)+1,v:=(parseV y.data.toList).fst,label:=y}∧y.size≤3000∧kd≠0))(hj33:33≤((j:Nat):Int))(hop0:0≤((op:Nat):Int))(w4:World)(Kz1:Act→World→Prop)(az2:∀(a:Act) (w_1:World),Code.wp Tryz.prog cR50 (Exit.inBlock 1 (Exit.then Kz5 (Exit.then Kz6 (Exit.inBlock 0 (Exit.then Kz7 (bodyPost Tryz.prog Tryz.f11 (RDPost w r))))))) a w_1→Kz1 a w_1)(w5:World)(c:VC)(vv:Val)(er:Int)(H5:Hid (RowKit.Below w3.heap.size w3 w5∧CF (fun j=>w4.heap.size≤j) w5 c vv∧RowKit.Below w4.heap.size w4 w5∧parseV y.data.toList=(vv,er)))(lr5:w.heap.size<w5.heap.size)(Kz:Act→World→Prop)(az1:∀(a:Act) (w_1:World),Code.wp Tryz.prog cR49 (Exit.then Kz1 (Exit.inBlock 1 (Exit.then Kz5 (Exit.then Kz6 (Exit.inBlock 0 (Exit.then Kz7 (bodyPost Tryz.prog Tryz.f11 (RDPost w r)))))))) a w_1→Kz a w_1)(w6:World)(H6:Hid (RowKit.Below w3.heap.size w3 w6∧RowKit.Below w5.heap.size w5 w6∧w6.heap[w5.heap.size]? =some (Obj.cells #[Value.int IntKind.i64 c.kind,Value.int IntKind.i64 c.n,Value.string c.s,Value.slice c.la c.ln c.lc] 39)))(v0:w6.cell? {block:=w5.heap.size,off:=0}=some (Value.int IntKind.i64 c.kind))(lv:w5.heap.size<w6.heap.size)(lr6:w.heap.size<w6.heap.size)(wq:World)(HS:Hid (gkz=n - i∧RdS w3.heap.size wq u5 u6 u7 t∧t.names.length=t.at_.length∧(bif (readM i x t).fst !=0 then((((i:Nat):Int)+1,(readM i x t).fst),(readM i x t).snd)else readL (List.drop (i+1) init) (i+1) (readM i x t).snd)=q∧t.out.length≤i∧t.names.length≤i∧RowKit.Below w3.heap.size w3 wq∧RowKit.Below w.heap.size w wq∧x.size≤3000))(HN6:Hid (w3.heap.size≤wq.heap.size))(H14:Hid (RowKit.Below wq.heap.size wq w14∧StB w14 wq.heap.size (-1) 0 (((i:Nat):Int)+1) {kind:=0,n:=0,s:=(⟨#[]⟩:ByteArray),la:=none,ln:=0,lc:=0} (⟨#[]⟩:ByteArray)∧RdS w3.heap.size w14 u5 u6 u7 t∧RowKit.Below w3.heap.size w3 w14))(RW:Hid (StB wr wq.heap.size (((op:Nat):Int)) 0 (((i:Nat):Int)+1) {kind:=0,n:=0,s:=(⟨#[]⟩:ByteArray),la:=none,ln:=0,lc:=0} (⟨#[]⟩:ByteArray)∧RowKit.Below wq.heap.size wq wr∧RdS w3.heap.size wr u5 u6 u7 t∧RowKit.Below w3.heap.size w3 wr∧RowKit.Below w.heap.size w wr))(H4:Hid (RowKit.Below w3.heap.size w3 w4∧RowKit.Below w.heap.size w w4∧RdS w3.heap.size w4 u5 u6 u7 t∧StB w4 wq.heap.size (((op:Nat):Int)) 0 (((i:Nat):Int)+1) {kind:=0,n:=0,s:=(⟨#[]⟩:ByteArray),la:=none,ln:=0,lc:=0} (⟨#[]⟩:ByteArray)))(H4B:Hid (RowKit.Below wq.heap.size wq w4))(wc:World)(u2 u49 u50 u51 u52 u53 u54 u55 u56 u57 u58 u59 u60 u61 u62 u63 u64 u65 u66 u67 u68 u69 u73 u74 u75 u76 u77 u78 u79 u80 u81 u82 u83 u84 u85 u86 u87 u88 u89 u90 u91 u92 u93 u94 u95 u96 u97 u98 u99 u100 u101 u102 u103 u104 u105 u106 u107 u108 u109 u110 u111 u112 u113 u114 u115 u116 u117 u118 u119 u120 u121 u122 u123 u124 u125 u126 u127 u128 u129 u130 u131 u132 u133 u134 u135 u136 u137 u138 u139 u140 u141 u142 u143 u144 u145 u146 u147 u148 u149 u150 u151 u152 u153 u154 u155 u156 u157 u158 u159 u160 u161 u162 u163 u164 u165 u166 u167 u168 u169 u170 u171 u172 u173 u174 u175 u176 u177 u178 u179 u180 u181 u182 u183 u184 u185 u186 u187 u188 u189 u190 u191 u192 u193 u194 u195 u196 u197 u198 u199 u200 u201 u202 u203 u204 u205 u206 u207 u208 u209 u210 u211 u212 u213 u214 u215 u216 u217 u218 u219 u220 u221 u222 u223 u224 u225 u226 u227 u228 u229 u230 u231 u232 u233 u234 u235 u236 u237:Value)(hcut:RowKit.Below w6.heap.size w6 wc∧readM i x t=(0,{names:=t.names,at_:=t.at_,out:=t.out++[stepR i x ((op:Nat):Int)]})):
  Kz {tmps:=#[Value.string s,undef,u2,Value.pointer (some {block:=w.heap.size,off:=0}),Value.slice (some {block:=ag,off:=ao}) m ac,u5,u6,u7,Value.int IntKind.i64 ((i:Nat):Int),Value.string y,Value.int IntKind.i64 z,undef,u12,Value.int IntKind.i64 ((k0:Nat):Int),Value.pointer (some {block:=wq.heap.size,off:=0}),Value.int IntKind.i64 ((j:Nat):Int),Value.int IntKind.u8 (opC kd),Value.pointer (some {block:=w5.heap.size,off:=0}),Value.int IntKind.i64 er,undef,undef,undef,undef,Value.string s,Value.int IntKind.i64 ((s.size:Nat):Int),Value.bool false,undef,Value.string s,Value.slice (some {block:=ag,off:=ao}) m ac,Value.slice (some {block:=ag,off:=ao}) m ac,Value.slice (some {block:=ag,off:=ao}) m ac,Value.int IntKind.i64 ((m:Nat):Int),Value.int IntKind.i64 ((n:Nat):Int),Value.pointer (some {block:=ag,off:=ao+n}),Value.string (⟨#[]⟩:ByteArray),Value.bool false,Value.bool false,Value.slice (some {block:=ag,off:=ao}) m ac,Value.int IntKind.i64 ((m:Nat):Int),Value.bool false,Value.bool false,undef,Value.slice (some {block:=ag,off:=ao}) m ac,Value.slice (some {block:=ag,off:=ao}) m ac,Value.int IntKind.i64 ((m:Nat):Int),Value.int IntKind.i64 ((n:Nat):Int),Value.slice (some {block:=ag,off:=ao}) n ac,Value.int IntKind.i64 ((n:Nat):Int),Value.int IntKind.i64 ((i:Nat):Int),u49,u50,u51,u52,u53,u54,u55,u56,u57,u58,u59,u60,u61,u62,u63,u64,u65,u66,u67,u68,u69,u70,u71,u72,u73,u74,u75,u76,u77,u78,u79,u80,u81,u82,u83,u84,u85,u86,u87,u88,u89,u90,u91,u92,u93,u94,u95,u96,u97,u98,u99,u100,u101,u102,u103,u104,u105,u106,u107,u108,u109,u110,u111,u112,u113,u114,u115,u116,u117,u118,u119,u120,u121,u122,u123,u124,u125,u126,u127,u128,u129,u130,u131,u132,u133,u134,u135,u136,u137,u138,u139,u140,u141,u142,u143,u144,u145,u146,u147,u148,u149,u150,u151,u152,u153,u154,u155,u156,u157,u158,u159,u160,u161,u162,u163,u164,u165,u166,u167,u168,u169,u170,u171,u172,u173,u174,u175,u176,u177,u178,u179,u180,u181,u182,u183,u184,u185,u186,u187,u188,u189,u190,u191,u192,u193,u194,u195,u196,u197,u198,u199,u200,u201,u202,u203,u204,u205,u206,u207,u208,u209,u210,u211,u212,u213,u214,u215,u216,u217,u218,u219,u220,u221,u222,u223,u224,u225,u226,u227,u228,u229,u230,u231,u232,u233,u234,u235,u236,u237,undef,undef,undef,undef,undef,undef,undef,undef,undef,undef,undef,undef,undef,undef,undef,undef,undef,undef,undef,undef,undef,undef,undef,undef,undef,undef,undef,undef,undef,undef,undef,undef,undef,undef,undef,undef,undef,undef,undef,undef,undef,undef,undef,undef,undef,undef,undef,undef,undef,undef,undef,undef,undef,undef,undef,undef,undef],defers:=[]} wc:=by
 revert az1 az2 az5
 conv=>arg 1;intro a w_1;arg 1;arg 2;whnf
 conv=>arg 2;arg 1;intro a w_1;arg 1;arg 2;whnf
 conv=>arg 2;arg 2;arg 1;intro a w_1;arg 1;arg 2;whnf
 intro az1 az2 az5
 obtain⟨hBx,hrd⟩:=hcut
 focus
  have B45:=H5.out.2.2.1
  have B46:Below w4.heap.size w4 wc:=Below.trans B45 (Below.mono (Below.trans H6.out.2.1 (Below.mono hBx H6.out.2.1.size)) B45.size)
  have X:=StB.below H4.out.2.2.2 B46
  obtain⟨x0,x1,x2,x3,x4,x5,x6,x7,xf,xl⟩:=X.all
  dsimp only at x3 x4 x5 x6
  have bv:=(hBx.block w5.heap.size lv).trans H6.out.2.2
  have v0:=zca bv 0 rfl
  have v1:=zca bv 1 rfl
  have v2:=zca bv 2 rfl
  have v3:=zca bv 3 rfl
  have lvx:w5.heap.size<wc.heap.size:=zlt bv
  have CW:CF (fun g=>w4.heap.size≤g) wc c vv:=H5.out.2.1.keep (S:=fun _=>False) (zkb (Below.trans H6.out.2.1 (Below.mono hBx H6.out.2.1.size))) (fun _ _ f=>f)
  have HK:=zh4 B46 X bv CW
  have DG:=zhd (fun W' (_:Below wc.heap.size wc W')=>ldigits_any y W')
  obtain⟨dv,hdv⟩:∃dv,digL2 y.data.toList=dv:=⟨_,rfl⟩
  have hst:=HY.out.2.1
  rw[hdv]at DG hst
  rw[H5.out.2.2.2]at hst
  have hrd2:=ok_read HS.out.2.2.2.1 hrd
  rw[hst]at hrd2
  have HE:=zhd hrd2
  clear B45 B46 X bv CW hrd hrd2 hdv hst hBx
  try dsimp only
  go_wp2_with fail
  go_region_law ((go_simp;go_at_call 42;refine(DG.out _ ((Below.refl _ _).drew)).mono ?_;rintro e w7 ⟨rfl,hB7⟩;have B7:Below wc.heap.size wc w7:=Below.trans ((Below.refl wc.heap.size wc).drew) hB7;have X7:=HK.out.2.1.below B7;have bv7:=(B7.block w5.heap.size lvx).trans HK.out.2.2.1;have z1:=X7.all.2.1;have z3:=X7.all.2.2.2.1;have z4:=X7.all.2.2.2.2.1;have z5:=X7.all.2.2.2.2.2.1;have z6:=X7.all.2.2.2.2.2.2.1;have z7:=X7.all.2.2.2.2.2.2.2.1;have zf:=X7.all.2.2.2.2.2.2.2.2.1;have zl:=X7.all.2.2.2.2.2.2.2.2.2;dsimp only at z3 z4 z5 z6;have u0:w7.cell? ⟨w5.heap.size,0,none⟩=some (.int .i64 c.kind):=(by rw[zch bv7];rfl);have u1:w7.cell? ⟨w5.heap.size,1,none⟩=some (.int .i64 c.n):=(by rw[zch bv7];rfl);have u2:w7.cell? ⟨w5.heap.size,2,none⟩=some (.string c.s):=(by rw[zch bv7];rfl);have u3:w7.cell? ⟨w5.heap.size,3,none⟩=some (.slice c.la c.ln c.lc):=(by rw[zch bv7];rfl);have HX7:=zh2 B7 X7;clear B7 X7 bv7 hB7))
  all_goals
   obtain⟨w8,hw8⟩:∃w8,w8=((((((w7.setCell ⟨wq.heap.size,3,none⟩ (.int .i64 c.kind)).setCell ⟨wq.heap.size,4,none⟩ (.int .i64 c.n)).setCell ⟨wq.heap.size,5,none⟩ (.string c.s)).setCell ⟨wq.heap.size,6,none⟩ (.slice c.la c.ln c.lc)).setCell ⟨wq.heap.size,7,none⟩ (.string y)).setCell ⟨wq.heap.size,1,none⟩ (.int .i64 dv)):=⟨_,rfl⟩
   rw[←hw8]
   have hql:wq.heap.size<w4.heap.size:=zlt H4.out.2.2.2
   have B47:=HK.out.1.trans (HX7.out.1.mono HK.out.1.size)
   have KS:Keeps (fun g=>g=wq.heap.size) w7 w8:=by rw[hw8];exact six_one w7 _ _ _ _ _ _ _
   have X8:StB w8 wq.heap.size op dv ((i:Int)+1) c y:=by rw[hw8];exact HX7.out.2.fill _ _ _
   have BQ7:=H4B.out.trans (B47.mono H4B.out.size)
   have BQ:RowKit.Below wq.heap.size wq w8:=BQ7.trans (Keeps.below KS BQ7.size (fun jz hj e=>Nat.ne_of_lt hj e))
   have CW8:=(HK.out.2.2.2.keep (S:=fun _=>False) (zkb HX7.out.1) (fun _ _ f=>f)).keep KS (fun g hg e=>by have e:g=wq.heap.size:=e;have hg:w4.heap.size≤g:=hg;omega)
   have CQ:CF (fun g=>wq.heap.size≤g) w8 c vv:=CW8.mono (fun g hg _=>Nat.le_trans (Nat.le_of_lt hql) hg)
   have R8:=RdS.below HS.out.2.1 BQ
   have CZ:=(RdS.fresh HS.out.2.1 HN6.out CQ)
   have B38:=HS.out.2.2.2.2.2.2.1.trans (BQ.mono HN6.out)
   obtain⟨x0,x1,x2,x3,x4,x5,x6,x7,xf,xl⟩:=X8.all
   have A8:RowKit.Below w8.heap.size w8 (w8.alloc (.cells #[.int .i64 op,.int .i64 dv,.int .i64 ((i:Int)+1),.int .i64 c.kind,.int .i64 c.n,.string c.s,.slice c.la c.ln c.lc,.string y] 41)):=zal
   have RA:=zhd (R8.below A8)
   obtain⟨cs,hcr,hcl,hcf⟩:=RA.out.out
   obtain⟨oa,oc,hv5⟩:=hcr.slice
   subst hv5
   have HCF:=zh6 hcr hcl hcf B38 B38.size (CZ.keep (S:=fun _=>False) (zkb A8) (fun _ _ f=>f))
   have hB1:(cs.length+1)*96≤140737488355328:=by rw[hcl];omega
   have hB2:cs.length+1≤maxLen:=by rw[hcl];unfold maxLen;omega
   clear hw8 hql B47 KS X8 BQ7 BQ CW8 CQ R8 CZ B38 A8 hcr hcl hcf z1 z3 z4 z5 z6 z7 zf zl u0 u1 u2 u3 v0 v1 v2 v3 lvx lv lr6
   go_wp2_with (at_builtin;go_must (refine wp_appW (α:=SC) elemSC rfl (.tmp 233) (.tmp 235) rfl HCF.out.1 (⟨op,dv,(i:Int)+1,c,y⟩:SC) rfl rfl (heap_alloc_new _ _) hB1 hB2 ?_);intro a1 q1 w9 hr1 hk1 hf1;have HF:=zh3 hr1 hk1 hf1;clear hr1 hk1 hf1)
   go_roundg (n - (i+1))
   case measure=>exact HMS.out
   case rel=>
    have hN8:w3.heap.size≤(World.alloc w8 (.cells #[.int .i64 op,.int .i64 dv,.int .i64 ((i:Int)+1),.int .i64 c.kind,.int .i64 c.n,.string c.s,.slice c.la c.ln c.lc,.string y] 41)).heap.size:=by rw[alloc_sz'];exact Nat.le_succ_of_le HCF.out.2.2.2.2.1
    have R9:=RdS.put5 (x:=⟨op,dv,(i:Int)+1,vv,y⟩) RA.out hN8 HCF.out.2.1 HCF.out.2.2.1 ⟨rfl,rfl,rfl,HCF.out.2.2.2.2.2,rfl⟩ HF.out.1 HF.out.2.1 HF.out.2.2
    refine⟨i+1,{t with out:=t.out++[(⟨op,dv,(i:Int)+1,vv,y⟩:SR)]},by simp,hi1,rfl,R9,HS.out.2.2.1,HE.out,?_,?_,?_⟩
    ·show(t.out++[_]).length≤i+1
     rw[List.length_append]
     exact Nat.succ_le_succ HS.out.2.2.2.2.1
    ·exact Nat.le_succ_of_le HS.out.2.2.2.2.2.1
    ·have o5:=RA.out.o5
     exact HCF.out.2.2.2.1.trans (((Below.refl w8.heap.size w8).alloc (Nat.le_refl _) _|>.mono HCF.out.2.2.2.2.1).trans (Keeps.below HF.out.2.1 hN8 (fun jz hj e=>Nat.not_lt.2 (o5 jz e).1 hj)))
end Go.Proofs.YtakljipkaoahnaaGreatDoor
