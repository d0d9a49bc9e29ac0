/- Parts of the proof: what the functions and the plain laws give that later parts lean on. Conditions: none beyond those that each theorem names. -/
import Derived.Shelf.LaysM
import Derived.Shelf.LaysC
import Derived.Shelf.Small.Strs
import Derived.Shelf.Small.Wraps
import Derived.Shelf.Strings.Prefix
import Derived.Shelf.Strings.Cut
import Derived.Shelf.Strings.Split
import Derived.Shelf.Strings.OnBuilder
import Derived.Shelf.Strconv.Itoa3
import Derived.Shelf.Strconv.Itoa4
import Derived.Shelf.Strconv.AtoiAll
import Derived.Shelf.Strconv.ParseIntPublic10
import Derived.Test.YtakljipkaoahnaaGreatDoorProg
import Derived.Lib.IndexLaws
import Derived.Laws.IdiomStrings
import Derived.Lib.LaidTab
import Derived.Lib.ParseIntB
import Derived.Lib.ItoaNum
import Derived.Shelf.Strconv.ErrVarAll
import Derived.Lib.SmallJoins
import Derived.Test.YtakljipkaoahnaaGreatDoorB1
set_option maxRecDepth 100000
set_option maxHeartbeats 8000000
namespace Go.Proofs
open Go.Shelf
def Tryz.lays106_ren:Go.Shelf.Ren:=⟨fun|106=>93|213=>129|265=>157|n=>n,fun|9=>9|3=>3|n=>n,fun|n=>n⟩
theorem Tryz.lays106:Go.Proofs.Lays.n106 Tryz.prog Tryz.lays106_ren:={
 mixed:=by kernel_rfl
 f106:=Tryz.func93.trans (congrArg some (by kernel_rfl))
 f213:=Tryz.func129.trans (congrArg some (by kernel_rfl))
 f265:=Tryz.func157.trans (congrArg some (by kernel_rfl))
 t3:=Tryz.underlying3
 a3:=Tryz.isAgg3
 z3:=Tryz.sizeOf3
 v3:=Tryz.zeroValue3
 t9:=Tryz.underlying9
 a9:=Tryz.isAgg9
 z9:=Tryz.sizeOf9
 v9:=Tryz.zeroValue9}
def Tryz.lays137_ren:Go.Shelf.Ren:=⟨fun|137=>132|217=>162|266=>183|n=>n,fun|9=>9|5=>5|3=>3|n=>n,fun|n=>n⟩
theorem Tryz.lays137:Go.Proofs.Lays.n137 Tryz.prog Tryz.lays137_ren:={
 mixed:=by kernel_rfl
 f137:=Tryz.func132.trans (congrArg some (by kernel_rfl))
 f217:=Tryz.func162.trans (congrArg some (by kernel_rfl))
 f266:=Tryz.func183.trans (congrArg some (by kernel_rfl))
 t3:=Tryz.underlying3
 a3:=Tryz.isAgg3
 z3:=Tryz.sizeOf3
 v3:=Tryz.zeroValue3
 t5:=Tryz.underlying5
 a5:=Tryz.isAgg5
 z5:=Tryz.sizeOf5
 v5:=Tryz.zeroValue5
 t9:=Tryz.underlying9
 a9:=Tryz.isAgg9
 z9:=Tryz.sizeOf9
 v9:=Tryz.zeroValue9}
def Tryz.lays103_ren:Go.Shelf.Ren:=⟨fun|103=>84|210=>118|206=>153|n=>n,fun|9=>9|4=>4|24=>86|3=>3|n=>n,fun|n=>n⟩
theorem Tryz.lays103:Go.Proofs.Lays.n103 Tryz.prog Tryz.lays103_ren:={
 mixed:=by kernel_rfl
 f103:=Tryz.func84.trans (congrArg some (by kernel_rfl))
 f206:=Tryz.func153.trans (congrArg some (by kernel_rfl))
 f210:=Tryz.func118.trans (congrArg some (by kernel_rfl))
 t3:=Tryz.underlying3
 a3:=Tryz.isAgg3
 z3:=Tryz.sizeOf3
 v3:=Tryz.zeroValue3
 t4:=Tryz.underlying4
 a4:=Tryz.isAgg4
 z4:=Tryz.sizeOf4
 v4:=Tryz.zeroValue4
 t9:=Tryz.underlying9
 a9:=Tryz.isAgg9
 z9:=Tryz.sizeOf9
 v9:=Tryz.zeroValue9
 t24:=Tryz.underlying86
 a24:=Tryz.isAgg86
 z24:=Tryz.sizeOf86
 v24:=Tryz.zeroValue86}
def Tryz.lays104_ren:Go.Shelf.Ren:=⟨fun|104=>33|211=>81|207=>114|n=>n,fun|9=>9|4=>4|24=>86|3=>3|n=>n,fun|n=>n⟩
theorem Tryz.lays104:Go.Proofs.Lays.n104 Tryz.prog Tryz.lays104_ren:={
 mixed:=by kernel_rfl
 f104:=Tryz.func33.trans (congrArg some (by kernel_rfl))
 f207:=Tryz.func114.trans (congrArg some (by kernel_rfl))
 f211:=Tryz.func81.trans (congrArg some (by kernel_rfl))
 t3:=Tryz.underlying3
 a3:=Tryz.isAgg3
 z3:=Tryz.sizeOf3
 v3:=Tryz.zeroValue3
 t4:=Tryz.underlying4
 a4:=Tryz.isAgg4
 z4:=Tryz.sizeOf4
 v4:=Tryz.zeroValue4
 t9:=Tryz.underlying9
 a9:=Tryz.isAgg9
 z9:=Tryz.sizeOf9
 v9:=Tryz.zeroValue9
 t24:=Tryz.underlying86
 a24:=Tryz.isAgg86
 z24:=Tryz.sizeOf86
 v24:=Tryz.zeroValue86}
def Tryz.lays99_ren:Go.Shelf.Ren:=⟨fun|99=>122|206=>153|n=>n,fun|9=>9|4=>4|3=>3|n=>n,fun|n=>n⟩
def Tryz.lays145_ren:Go.Shelf.Ren:=⟨fun|145=>85|220=>119|219=>152|217=>162|225=>172|224=>173|267=>174|266=>183|314=>185|n=>n,fun|9=>9|4=>4|59=>157|3=>3|5=>5|46=>189|146=>246|51=>238|n=>n,fun|1=>0|n=>n⟩
theorem Tryz.lays145:Go.Proofs.Lays.n145 Tryz.prog Tryz.lays145_ren:={
 mixed:=by kernel_rfl
 f145:=Tryz.func85.trans (congrArg some (by kernel_rfl))
 f217:=Tryz.func162.trans (congrArg some (by kernel_rfl))
 f219:=Tryz.func152.trans (congrArg some (by kernel_rfl))
 f220:=Tryz.func119.trans (congrArg some (by kernel_rfl))
 f224:=Tryz.func173.trans (congrArg some (by kernel_rfl))
 f225:=Tryz.func172.trans (congrArg some (by kernel_rfl))
 f266:=Tryz.func183.trans (congrArg some (by kernel_rfl))
 f267:=Tryz.func174.trans (congrArg some (by kernel_rfl))
 f314:=Tryz.func185.trans (congrArg some (by kernel_rfl))
 t3:=Tryz.underlying3
 a3:=Tryz.isAgg3
 z3:=Tryz.sizeOf3
 v3:=Tryz.zeroValue3
 t4:=Tryz.underlying4
 a4:=Tryz.isAgg4
 z4:=Tryz.sizeOf4
 v4:=Tryz.zeroValue4
 t5:=Tryz.underlying5
 a5:=Tryz.isAgg5
 z5:=Tryz.sizeOf5
 v5:=Tryz.zeroValue5
 t9:=Tryz.underlying9
 a9:=Tryz.isAgg9
 z9:=Tryz.sizeOf9
 v9:=Tryz.zeroValue9
 t46:=Tryz.underlying189
 a46:=Tryz.isAgg189
 z46:=Tryz.sizeOf189
 v46:=Tryz.zeroValue189
 t51:=Tryz.underlying238
 a51:=Tryz.isAgg238
 z51:=Tryz.sizeOf238
 v51:=Tryz.zeroValue238
 t59:=Tryz.underlying157
 a59:=Tryz.isAgg157
 z59:=Tryz.sizeOf157
 v59:=Tryz.zeroValue157
 t146:=Tryz.underlying246
 a146:=Tryz.isAgg246
 z146:=Tryz.sizeOf246
 v146:=Tryz.zeroValue246
 g1:=by kernel_rfl}
def Tryz.lays146_ren:Go.Shelf.Ren:=⟨fun|146=>34|221=>82|268=>115|138=>116|143=>117|195=>149|197=>150|218=>151|219=>152|260=>171|217=>162|225=>172|224=>173|267=>174|266=>183|314=>185|n=>n,fun|9=>9|31=>25|3=>3|4=>4|0=>0|105=>218|21=>21|5=>5|46=>189|119=>242|139=>245|138=>244|146=>246|51=>238|n=>n,fun|1=>0|3=>2|4=>3|n=>n⟩
theorem Tryz.lays146:Go.Proofs.Lays.n146 Tryz.prog Tryz.lays146_ren:={
 mixed:=by kernel_rfl
 f138:=Tryz.func116.trans (congrArg some (by kernel_rfl))
 f143:=Tryz.func117.trans (congrArg some (by kernel_rfl))
 f146:=Tryz.func34.trans (congrArg some (by kernel_rfl))
 f195:=Tryz.func149.trans (congrArg some (by kernel_rfl))
 f197:=Tryz.func150.trans (congrArg some (by kernel_rfl))
 f217:=Tryz.func162.trans (congrArg some (by kernel_rfl))
 f218:=Tryz.func151.trans (congrArg some (by kernel_rfl))
 f219:=Tryz.func152.trans (congrArg some (by kernel_rfl))
 f221:=Tryz.func82.trans (congrArg some (by kernel_rfl))
 f224:=Tryz.func173.trans (congrArg some (by kernel_rfl))
 f225:=Tryz.func172.trans (congrArg some (by kernel_rfl))
 f260:=Tryz.func171.trans (congrArg some (by kernel_rfl))
 f266:=Tryz.func183.trans (congrArg some (by kernel_rfl))
 f267:=Tryz.func174.trans (congrArg some (by kernel_rfl))
 f268:=Tryz.func115.trans (congrArg some (by kernel_rfl))
 f314:=Tryz.func185.trans (congrArg some (by kernel_rfl))
 t0:=Tryz.underlying0
 a0:=Tryz.isAgg0
 z0:=Tryz.sizeOf0
 v0:=Tryz.zeroValue0
 t3:=Tryz.underlying3
 a3:=Tryz.isAgg3
 z3:=Tryz.sizeOf3
 v3:=Tryz.zeroValue3
 t4:=Tryz.underlying4
 a4:=Tryz.isAgg4
 z4:=Tryz.sizeOf4
 v4:=Tryz.zeroValue4
 t5:=Tryz.underlying5
 a5:=Tryz.isAgg5
 z5:=Tryz.sizeOf5
 v5:=Tryz.zeroValue5
 t9:=Tryz.underlying9
 a9:=Tryz.isAgg9
 z9:=Tryz.sizeOf9
 v9:=Tryz.zeroValue9
 t21:=Tryz.underlying21
 a21:=Tryz.isAgg21
 z21:=Tryz.sizeOf21
 v21:=Tryz.zeroValue21
 t31:=Tryz.underlying25
 a31:=Tryz.isAgg25
 z31:=Tryz.sizeOf25
 v31:=Tryz.zeroValue25
 t46:=Tryz.underlying189
 a46:=Tryz.isAgg189
 z46:=Tryz.sizeOf189
 v46:=Tryz.zeroValue189
 t51:=Tryz.underlying238
 a51:=Tryz.isAgg238
 z51:=Tryz.sizeOf238
 v51:=Tryz.zeroValue238
 t105:=Tryz.underlying218
 a105:=Tryz.isAgg218
 z105:=Tryz.sizeOf218
 v105:=Tryz.zeroValue218
 t119:=Tryz.underlying242
 a119:=Tryz.isAgg242
 z119:=Tryz.sizeOf242
 t138:=Tryz.underlying244
 a138:=Tryz.isAgg244
 z138:=Tryz.sizeOf244
 v138:=Tryz.zeroValue244
 t139:=Tryz.underlying245
 a139:=Tryz.isAgg245
 z139:=Tryz.sizeOf245
 v139:=Tryz.zeroValue245
 t146:=Tryz.underlying246
 a146:=Tryz.isAgg246
 z146:=Tryz.sizeOf246
 v146:=Tryz.zeroValue246
 g1:=by kernel_rfl
 g3:=by kernel_rfl
 g4:=by kernel_rfl}
def Tryz.lays171_ren:Go.Shelf.Ren:=⟨fun|171=>76|243=>113|246=>130|283=>158|284=>159|285=>160|286=>161|129=>179|317=>178|318=>180|319=>181|320=>182|337=>191|338=>192|n=>n,fun|3=>3|9=>9|2=>2|4=>4|171=>223|0=>0|53=>201|37=>140|5=>5|173=>226|212=>237|51=>238|20=>20|213=>239|46=>189|232=>259|233=>260|n=>n,fun|17=>1|18=>6|19=>7|n=>n⟩
def Tryz.laysM173_ren:Go.Shelf.Ren:=⟨fun|173=>95|246=>130|283=>158|284=>159|285=>160|286=>161|129=>179|317=>178|318=>180|319=>181|320=>182|337=>191|338=>192|n=>n,fun|2=>2|3=>3|9=>9|4=>4|171=>223|0=>0|53=>201|37=>140|5=>5|173=>226|212=>237|51=>238|20=>20|213=>239|46=>189|232=>259|233=>260|n=>n,fun|17=>1|18=>6|19=>7|n=>n⟩
theorem Tryz.laysM173:Go.Proofs.LaysM.n173 Tryz.prog Tryz.laysM173_ren:={
 mixed:=by kernel_rfl
 f129:=Tryz.func179.trans (congrArg some (by kernel_rfl))
 f173:=Tryz.func95.trans (congrArg some (by kernel_rfl))
 f246:=Tryz.func130.trans (congrArg some (by kernel_rfl))
 f283:=Tryz.func158.trans (congrArg some (by kernel_rfl))
 f284:=Tryz.func159.trans (congrArg some (by kernel_rfl))
 f285:=Tryz.func160.trans (congrArg some (by kernel_rfl))
 f286:=Tryz.func161.trans (congrArg some (by kernel_rfl))
 f317:=Tryz.func178.trans (congrArg some (by kernel_rfl))
 f318:=Tryz.func180.trans (congrArg some (by kernel_rfl))
 f319:=Tryz.func181.trans (congrArg some (by kernel_rfl))
 f320:=Tryz.func182.trans (congrArg some (by kernel_rfl))
 f337:=Tryz.func191.trans (congrArg some (by kernel_rfl))
 f338:=Tryz.func192.trans (congrArg some (by kernel_rfl))
 t0:=Tryz.underlying0
 a0:=Tryz.isAgg0
 z0:=Tryz.sizeOf0
 v0:=Tryz.zeroValue0
 t2:=Tryz.underlying2
 a2:=Tryz.isAgg2
 z2:=Tryz.sizeOf2
 v2:=Tryz.zeroValue2
 t3:=Tryz.underlying3
 a3:=Tryz.isAgg3
 z3:=Tryz.sizeOf3
 v3:=Tryz.zeroValue3
 t4:=Tryz.underlying4
 a4:=Tryz.isAgg4
 z4:=Tryz.sizeOf4
 v4:=Tryz.zeroValue4
 t5:=Tryz.underlying5
 a5:=Tryz.isAgg5
 z5:=Tryz.sizeOf5
 v5:=Tryz.zeroValue5
 t9:=Tryz.underlying9
 a9:=Tryz.isAgg9
 z9:=Tryz.sizeOf9
 v9:=Tryz.zeroValue9
 t20:=Tryz.underlying20
 a20:=Tryz.isAgg20
 z20:=Tryz.sizeOf20
 v20:=Tryz.zeroValue20
 t37:=Tryz.underlying140
 a37:=Tryz.isAgg140
 z37:=Tryz.sizeOf140
 v37:=Tryz.zeroValue140
 t46:=Tryz.underlying189
 a46:=Tryz.isAgg189
 z46:=Tryz.sizeOf189
 v46:=Tryz.zeroValue189
 t51:=Tryz.underlying238
 a51:=Tryz.isAgg238
 z51:=Tryz.sizeOf238
 v51:=Tryz.zeroValue238
 t53:=Tryz.underlying201
 a53:=Tryz.isAgg201
 z53:=Tryz.sizeOf201
 v53:=Tryz.zeroValue201
 t171:=Tryz.underlying223
 a171:=Tryz.isAgg223
 z171:=Tryz.sizeOf223
 v171:=Tryz.zeroValue223
 t173:=Tryz.underlying226
 a173:=Tryz.isAgg226
 z173:=Tryz.sizeOf226
 v173:=Tryz.zeroValue226
 t212:=Tryz.underlying237
 a212:=Tryz.isAgg237
 z212:=Tryz.sizeOf237
 v212:=Tryz.zeroValue237
 t213:=Tryz.underlying239
 a213:=Tryz.isAgg239
 z213:=Tryz.sizeOf239
 t232:=Tryz.underlying259
 a232:=Tryz.isAgg259
 z232:=Tryz.sizeOf259
 v232:=Tryz.zeroValue259
 t233:=Tryz.underlying260
 a233:=Tryz.isAgg260
 z233:=Tryz.sizeOf260
 v233:=Tryz.zeroValue260
 g17:=by kernel_rfl
 g18:=by kernel_rfl
 g19:=by kernel_rfl
 i0:=by kernel_rfl
 i2:=by kernel_rfl
 i3:=by kernel_rfl
 i4:=by kernel_rfl
 i5:=by kernel_rfl
 i9:=by kernel_rfl
 i20:=by kernel_rfl
 i37:=by kernel_rfl
 i46:=by kernel_rfl
 i51:=by kernel_rfl
 i53:=by kernel_rfl
 i171:=by kernel_rfl
 i173:=by kernel_rfl
 i212:=by kernel_rfl
 i232:=by kernel_rfl
 i233:=by kernel_rfl
 m17:=by kernel_rfl
 m18:=by kernel_rfl
 m19:=by kernel_rfl}
def Tryz.laysC172_ren:Go.Shelf.Ren:=⟨fun|172=>154|244=>175|245=>176|247=>177|279=>186|280=>187|281=>188|282=>189|287=>190|316=>193|171=>76|205=>194|321=>195|322=>196|243=>113|246=>130|283=>158|284=>159|285=>160|286=>161|129=>179|317=>178|318=>180|319=>181|320=>182|337=>191|338=>192|n=>n,fun|9=>9|3=>3|75=>144|76=>145|4=>4|5=>5|167=>248|37=>140|0=>0|85=>221|2=>2|168=>249|53=>201|175=>252|46=>189|210=>256|127=>190|145=>263|143=>261|21=>21|171=>223|173=>226|212=>237|51=>238|20=>20|213=>239|232=>259|233=>260|80=>69|n=>n,fun|15=>4|16=>5|17=>1|18=>6|19=>7|n=>n⟩
def Tryz.laysC174_ren:Go.Shelf.Ren:=⟨fun|174=>156|247=>177|245=>176|287=>190|279=>186|280=>187|281=>188|282=>189|321=>195|322=>196|316=>193|171=>76|205=>194|243=>113|246=>130|283=>158|284=>159|285=>160|286=>161|129=>179|317=>178|318=>180|319=>181|320=>182|337=>191|338=>192|n=>n,fun|9=>9|3=>3|2=>2|75=>144|85=>221|4=>4|167=>248|5=>5|53=>201|175=>252|46=>189|168=>249|37=>140|0=>0|210=>256|21=>21|127=>190|145=>263|143=>261|171=>223|173=>226|212=>237|51=>238|20=>20|213=>239|232=>259|233=>260|80=>69|n=>n,fun|15=>4|16=>5|17=>1|18=>6|19=>7|n=>n⟩
end Go.Proofs
namespace Go.Va
def labC (i:Nat)(c:UInt8):Bool:=decide ((97≤c.toNat∧c.toNat≤122)∨(0<i∧48≤c.toNat∧c.toNat≤57))
def labFrom:Nat→List UInt8→Bool
 |_,[]=>true
 |i,c::r=>labC i c&&labFrom (i+1) r
theorem labFrom_drop {s:ByteArray}{k:Nat}(h:k<s.size):labFrom k (s.data.toList.drop k)=(labC k s[k]&&labFrom (k+1) (s.data.toList.drop (k+1))):=by
 have h':k<s.data.toList.length:=by simpa using h
 rw[List.drop_eq_getElem_cons h',labFrom]
 rfl
def labL (s:List UInt8):Bool:=labFrom 0 s&&(1≤s.length&&s.length≤16)
def digL (c:UInt8):Int:=Lib.indexByte [48,49,50,51,52,53,54,55,56,57,97,98,99,100,101,102] c
def eatL (s:List UInt8)(at_:Nat)(c:UInt8):Bool:=match s[at_]? with|some x=>x==c|none=>false
end Go.Va
namespace Go.Proofs.YtakljipkaoahnaaGreatDoor
open Go.RowKit Go.Own Go.Own.MapTy Go.Va
open Go.Own.Cells (sz enc)
set_option maxHeartbeats 4000000 in
theorem label_any (s:ByteArray)(w:World)(hs:s.size≤4294967280):Calls Tryz.prog 83 #[.string s] w fun e w'=>e= .returned (.bool (labL s.data.toList))∧w'=w:=by
 go_enter Tryz.func83,Tryz.ntmps83
 go_wp2_with fail
 go_loopw [7] (fun v7 wr=>∃k:Nat,v7= .int .i64 k∧k≤s.size∧wr=w∧labFrom k (s.data.toList.drop k)=labFrom 0 s.data.toList) (fun v7 _=>s.size - (intOf v7).toNat)
 case atStart=>exact⟨0,rfl,Nat.zero_le _,rfl,rfl⟩
 case round=>
  obtain⟨k,rfl,hk,rfl,hf⟩:=hrel
  by_cases hkn:k<s.size
  ·rw[labFrom_drop hkn]at hf
   have HF:=zhd hf
   clear hf
   have hw:wrap64 ((k:Int)+1)=(k:Int)+1:=by unfold wrap64;omega
   rcases hlc:labC k s[k]with _|_
   ·have HL:labL s.data.toList=false:=by
     unfold labL
     rw[←HF.out,hlc]
     rfl
    unfold labC at hlc
    go_wp2_with fail
    all_goals first
     |(exfalso;simp only[decide_eq_false_iff_not]at*;omega)
     |(go_ret;exact⟨rfl,rfl⟩)
   ·have HL:labFrom (k+1) (s.data.toList.drop (k+1))=labFrom 0 s.data.toList:=by
     rw[←HF.out,hlc]
     rfl
    have HL:=zhd HL
    unfold labC at hlc
    go_wp2_with fail
    all_goals first
     |(exfalso;simp only[decide_eq_true_eq]at*;omega)
     |exact⟨⟨k+1,by simp,hkn,trivial,HL.out⟩,by simp[intOf];omega⟩
  ·obtain rfl:k=s.size:=by omega
   have HF:=zhd hf
   clear hf
   have hlen:s.data.toList.length=s.size:=by simp
   have HL:labL s.data.toList=(decide (1≤s.size)&&decide (s.size≤16)):=by
    unfold labL
    rw[←HF.out,List.drop_eq_nil_of_le (by omega),hlen]
    rfl
   by_cases h1:1≤s.size
   ·by_cases h2:s.size≤16
    ·have e1:(1:Int)≤s.size:=by omega
     have e2:(s.size:Int)≤16:=by omega
     go_wp2_with fail
     go_ret
     exact⟨by simp[HL,h1,h2],rfl⟩
    ·have e1:(1:Int)≤s.size:=by omega
     have e2:¬(s.size:Int)≤16:=by omega
     go_wp2_with fail
     go_ret
     exact⟨by simp,rfl⟩
   ·have e1:¬(1:Int)≤s.size:=by omega
    go_wp2_with fail
    go_ret
    exact⟨by simp,rfl⟩
theorem sign_any (b:Bool)(w:World):Calls Tryz.prog 92 #[.bool b] w fun e w'=>e= .returned (.int .i64 (bif b then -1 else 1))∧w'=w:=by
 go_enter Tryz.func92,Tryz.ntmps92
 cases b
 all_goals
  go_wp2_with fail
  go_ret
  exact⟨rfl,rfl⟩
def TX (w:World)(b:Nat)(s:ByteArray)(at_:Nat)(deep:Bool):Prop:=w.heap[b]? =some (.cells #[.string s,.int .i64 at_,.bool deep] 164)
end Go.Proofs.YtakljipkaoahnaaGreatDoor
namespace Go.Va
open Go.Own Go.RowKit
instance:Cells UInt8 where
 sz:=1
 enc:=fun c=>[.int .u8 c.toNat]
 len:=fun _=>rfl
 one:=by
  intro x v hv
  simp at hv
  subst hv
  rfl
def hexV (a b:UInt8):Int:=(16*digL a+digL b)%256
def hexBad (a b:UInt8):Bool:=decide (digL a<0∨digL b<0∨(32≤hexV a b∧hexV a b≤126))
def quotL (acc:List UInt8)(k:Nat):List UInt8→Option (List UInt8×Nat)
 |[]=>none
 |c::r=>
  if c.toNat=34 then some (acc,k+1)else
  if c.toNat<32∨126<c.toNat then none else
  if c.toNat≠92 then quotL (acc++[c]) (k+1) r else
  match r with
  |[]=>none
  |d::r1=>
   if d.toNat=34 then quotL (acc++[34]) (k+2) r1 else
   if d.toNat=92 then quotL (acc++[92]) (k+2) r1 else
   if d.toNat≠120 then none else
   match r1 with
   |a::b::r2=>if hexBad a b then none else quotL (acc++[UInt8.ofNat (hexV a b).toNat]) (k+4) r2
   |_=>none
theorem run_str {P:Program}{w:World}{e:TypeId}{v:Value}{l:List UInt8}(h:RowAt w e v l)(src dst e':TypeId)(hs:P.underlying src=some (.slice e'))(he:P.underlying e'=some (.int .u8))(hd:P.underlying dst=some .string):
 (convert src dst v).run P w= .ok (.string ⟨l.toArray⟩) w:=by
 rcases h with⟨rfl,rfl⟩|⟨g,off,cap,cur,rfl,hh,hl,hm,hs',hc⟩
 ·exact run_convert_bytes_nil w src e' hs he 0 0 dst hd
 ·refine run_convert_bytes_back w src dst e' ⟨g,off,none⟩ cap l hs he hd (fun j hj=> ?_)
  rw[Addr.add_lit,zch hh]
  refine hc j _ ?_
  have:=flat_get l j 0 l[j] (by simp) (by decide)
  simpa[Cells.sz,Cells.enc]using this
end Go.Va
namespace Go.Proofs.YtakljipkaoahnaaGreatDoor
open Go.RowKit Go.Own Go.Own.MapTy Go.Va
open Go.Own.Cells (sz enc)
theorem elemB:ElemOf UInt8 Tryz.prog 140 5 1:=elem_mk Tryz.underlying140 (z:=.int .u8 0) (n:=1) (by kernel_rfl) rfl rfl
def QPost (w:World)(b:Nat)(s:ByteArray)(deep:Bool)(r:Option (List UInt8×Nat))(e:Ending)(w':World):Prop:=
 ∃k,k≤s.size∧TX w' b s k deep∧Keeps (fun j=>j=b) w w'∧(match r with
  |some (t,k1)=>e= .returned (.tuple #[.string ⟨t.toArray⟩,.bool true])∧k=k1
  |none=>e= .returned (.tuple #[.string ⟨#[]⟩,.bool false]))
def QRel (w:World)(b:Nat)(s:ByteArray)(deep:Bool)(r:Option (List UInt8×Nat))(gk:Nat)(v4:Value)(wr:World):Prop:=
 ∃(k:Nat) (acc:List UInt8),gk=s.size - k∧k≤s.size∧acc.length≤k∧TX wr b s k deep∧RowAt wr 5 v4 acc∧quotL acc k (s.data.toList.drop k)=r∧Keeps (fun j=>j=b) w wr∧∀g,v4.ownBlock=some g→w.heap.size≤g
end Go.Proofs.YtakljipkaoahnaaGreatDoor
namespace Go.Va
open Go.Own Go.RowKit
open Cells (sz enc)
def RdF {α:Type}[Cells α](F:Nat→Prop)(w:World)(v:Value)(xs:List α):Prop:=
 ∃a cap,v= .slice a xs.length cap∧xs.length≤cap∧cap≤maxLen∧∀i x,xs[i]? =some x→∃g off,a=some ⟨g,off,none⟩∧F g∧g<w.heap.size∧∀j u,(enc x)[j]? =some u→w.cell? ⟨g,off+(i*sz α+j),none⟩=some u
section
variable{α:Type} [Cells α] {F G:Nat→Prop} {w w':World} {v:Value} {xs:List α}
theorem RdF.slice (h:RdF F w v xs):∃a cap,v= .slice a xs.length cap:=by obtain⟨a,cap,h,_⟩:=h;exact⟨a,cap,h⟩
theorem RdF.length_le (h:RdF F w v xs):xs.length≤maxLen:=by obtain⟨a,cap,_,h1,h2,_⟩:=h;omega
theorem RdF.keep {S:Nat→Prop}(h:RdF F w v xs)(K:Keeps S w w')(hs:∀g,F g→¬S g):RdF F w' v xs:=by
 obtain⟨a,cap,rfl,h1,h2,h3⟩:=h
 refine⟨a,cap,rfl,h1,h2,fun i x hx=> ?_⟩
 obtain⟨g,off,rfl,hF,hg,hc⟩:=h3 i x hx
 exact⟨g,off,rfl,hF,Nat.lt_of_lt_of_le hg K.size,fun j u hu=>(K.cell (p:=⟨g,_,none⟩) hg (hs g hF)).trans (hc j u hu)⟩
theorem RdF.mono (h:RdF F w v xs)(hs:∀g,F g→g<w.heap.size→G g):RdF G w v xs:=by
 obtain⟨a,cap,rfl,h1,h2,h3⟩:=h
 refine⟨a,cap,rfl,h1,h2,fun i x hx=> ?_⟩
 obtain⟨g,off,rfl,hF,hg,hc⟩:=h3 i x hx
 exact⟨g,off,rfl,hs g hF hg,hg,hc⟩
theorem RdF.at_ {a:Option Addr}{n cap:Nat}(h:RdF F w (.slice a n cap) xs){i:Nat}{x:α}(hx:xs[i]? =some x):∃g off,a=some ⟨g,off,none⟩∧F g∧g<w.heap.size∧∀j u,(enc x)[j]? =some u→w.cell? ⟨g,off+(i*sz α+j),none⟩=some u:=by
 obtain⟨a',cap',hv,_,_,h3⟩:=h
 cases hv
 exact h3 i x hx
theorem RdF.of_row {e:TypeId}(h:RowAt w e v xs)(hF:∀g,v.ownBlock=some g→F g):RdF F w v xs:=by
 rcases h with⟨rfl,rfl⟩|⟨g,off,cap,cur,rfl,hh,hl,hm,hs,hc⟩
 ·exact⟨none,0,rfl,Nat.le_refl _,Nat.zero_le _,fun i x hx=>by simp at hx⟩
 ·refine⟨_,cap,rfl,hl,hm,fun i x hx=>⟨g,off,rfl,hF g rfl,zlt hh,fun j u hu=> ?_⟩⟩
  have hj:j<sz α:=by have:=(zge hu).1;rwa[Cells.len]at this
  rw[zch hh]
  exact hc _ u (by rw[flat_get xs i j x hx hj];exact hu)
theorem RdF.nil (F:Nat→Prop)(w:World):RdF (α:=α) F w (.slice none 0 0) []:=⟨none,0,rfl,Nat.le_refl _,Nat.zero_le _,fun i x hx=>by simp at hx⟩
end
inductive VF (F:Nat→Prop) (w:World):Value→List Val→Prop
 |mk (v:Value) (cs:List VC) (l:List Val) (hr:RdF F w v cs) (hl:cs.length=l.length) (h:∀(i:Nat) (c:VC) (x:Val),cs[i]? =some c→l[i]? =some x→c.kind=x.kind∧c.n=x.num∧c.s=x.txt)
   (hv:∀(i:Nat) (c:VC) (x:Val),cs[i]? =some c→l[i]? =some x→VF F w (.slice c.la c.ln c.lc) x.list):VF F w v l
theorem VF.keep {F S:Nat→Prop}{w w':World}(K:Keeps S w w')(hs:∀g,F g→¬S g){v:Value}{l:List Val}(h:VF F w v l):VF F w' v l:=by
 induction h with
 |mk v cs l hr hl h0 _ ih=>exact .mk v cs l (hr.keep K hs) hl h0 ih
theorem VF.mono {F G:Nat→Prop}{w:World}(hs:∀g,F g→g<w.heap.size→G g){v:Value}{l:List Val}(h:VF F w v l):VF G w v l:=by
 induction h with
 |mk v cs l hr hl h0 _ ih=>exact .mk v cs l (hr.mono hs) hl h0 ih
theorem VF.nil (F:Nat→Prop)(w:World):VF F w (.slice none 0 0) []:=.mk _ [] [] (RdF.nil F w) rfl (fun i c x h=>by simp at h) (fun i c x h=>by simp at h)
structure CF (F:Nat→Prop)(w:World)(c:VC)(x:Val):Prop where
 kind:c.kind=x.kind
 n:c.n=x.num
 s:c.s=x.txt
 l:VF F w (.slice c.la c.ln c.lc) x.list
theorem CF.keep {F S:Nat→Prop}{w w':World}{c:VC}{x:Val}(h:CF F w c x)(K:Keeps S w w')(hs:∀g,F g→¬S g):CF F w' c x:=⟨h.kind,h.n,h.s,h.l.keep K hs⟩
theorem CF.mono {F G:Nat→Prop}{w:World}{c:VC}{x:Val}(h:CF F w c x)(hs:∀g,F g→g<w.heap.size→G g):CF G w c x:=⟨h.kind,h.n,h.s,h.l.mono hs⟩
def VRow (F:Nat→Prop)(w:World)(e:TypeId)(v:Value)(l:List Val):Prop:=
 ∃cs:List VC,RowAt w e v cs∧cs.length=l.length∧∀(i:Nat) (c:VC) (x:Val),cs[i]? =some c→l[i]? =some x→CF F w c x
theorem VRow.vf {F G:Nat→Prop}{w:World}{e:TypeId}{v:Value}{l:List Val}(h:VRow F w e v l)(hF:∀g,F g→G g)(hG:∀g,v.ownBlock=some g→G g):VF G w v l:=by
 obtain⟨cs,h1,h2,h3⟩:=h
 exact .mk v cs l (RdF.of_row h1 hG) h2 (fun i c x hc hx=>⟨(h3 i c x hc hx).kind,(h3 i c x hc hx).n,(h3 i c x hc hx).s⟩) (fun i c x hc hx=>(h3 i c x hc hx).l.mono (fun g h _=>hF g h))
theorem VRow.slice {F:Nat→Prop}{w:World}{e:TypeId}{v:Value}{l:List Val}(h:VRow F w e v l):∃a cap,v= .slice a l.length cap:=by
 obtain⟨cs,h1,h2,h3⟩:=h
 obtain⟨a,cap,h⟩:=h1.slice
 exact⟨a,cap,by rw[←h2];exact h⟩
theorem VRow.nil (F:Nat→Prop)(w:World)(e:TypeId):VRow F w e (.slice none 0 0) []:=⟨[],.inl ⟨rfl,rfl⟩,rfl,fun i c x h=>by simp at h⟩
theorem VRow.keep {F S:Nat→Prop}{w w':World}{e:TypeId}{v:Value}{l:List Val}(h:VRow F w e v l)(K:Keeps S w w')(hs:∀g,F g→¬S g)(hv:∀g,v.ownBlock=some g→¬S g):VRow F w' e v l:=by
 obtain⟨cs,h1,h2,h3⟩:=h
 exact⟨cs,h1.keep K hv,h2,fun i c x hc hx=>(h3 i c x hc hx).keep K hs⟩
theorem VRow.mono {F G:Nat→Prop}{w:World}{e:TypeId}{v:Value}{l:List Val}(h:VRow F w e v l)(hs:∀g,F g→g<w.heap.size→G g):VRow G w e v l:=by
 obtain⟨cs,h1,h2,h3⟩:=h
 exact⟨cs,h1,h2,fun i c x hc hx=>(h3 i c x hc hx).mono hs⟩
theorem VRow.app {F G:Nat→Prop}{w w1:World}{e:TypeId}{v v1:Value}{cs:List VC}{l:List Val}{c:VC}{x:Val}(h2:cs.length=l.length)(h3:∀(i:Nat) (c:VC) (x:Val),cs[i]? =some c→l[i]? =some x→CF F w c x)(hc:CF F w c x)
 (h1:RowAt w1 e v1 (cs++[c]))(K:Keeps (fun j=>v.ownBlock=some j) w w1)(hF:∀g,F g→¬v.ownBlock=some g)(hG:∀g,F g→g<w.heap.size→G g):VRow G w1 e v1 (l++[x]):=by
 refine⟨cs++[c],h1,by simp[h2],fun i c' x' hc' hx'=> ?_⟩
 have hk:∀{c x},CF F w c x→CF G w1 c x:=fun hx=>(hx.mono (G:=fun g=>F g∧G g) (fun g h hl=>⟨h,hG g h hl⟩)).keep K (fun g h=>hF g h.1)|>.mono (fun g h _=>h.2)
 by_cases hi:i<cs.length
 ·rw[List.getElem?_append_left hi]at hc'
  rw[List.getElem?_append_left (by omega)]at hx'
  exact hk (h3 i c' x' hc' hx')
 ·rw[List.getElem?_append_right (by omega)]at hc' hx'
  rw[h2]at hc'
  cases hj:i - l.length with
  |zero=>
   rw[hj]at hc' hx'
   simp at hc' hx'
   subst hc' hx'
   exact hk hc
  |succ j=>rw[hj]at hc';simp at hc'
theorem VF.elem {F:Nat→Prop}{w:World}{a:Option Addr}{n cap:Nat}{l:List Val}(h:VF F w (.slice a n cap) l):n=l.length∧∀(i:Nat) (x:Val),l[i]? =some x→∃c g off,CF F w c x∧a=some ⟨g,off,none⟩∧F g∧g<w.heap.size∧
 w.cell? ⟨g,off+i*4,none⟩=some (.int .i64 c.kind)∧w.cell? ⟨g,off+i*4+1,none⟩=some (.int .i64 c.n)∧w.cell? ⟨g,off+i*4+2,none⟩=some (.string c.s)∧w.cell? ⟨g,off+i*4+3,none⟩=some (.slice c.la c.ln c.lc):=by
 cases h with
 |mk _ cs _ hr hl h hv4=>
  obtain⟨a',cap',hv⟩:=hr.slice
  cases hv
  refine⟨hl,fun i x hx=> ?_⟩
  have hi:i<cs.length:=by rw[hl];exact(zge hx).1
  have hc:cs[i]? =some cs[i]:=List.getElem?_eq_getElem hi
  obtain⟨h1,h2,h3⟩:=h i _ x hc hx
  have h4:=hv4 i _ x hc hx
  obtain⟨g,off,hg,hF,hgl,hcs⟩:=hr.at_ hc
  exact⟨cs[i],g,off,⟨h1,h2,h3,h4⟩,hg,hF,hgl,hcs 0 _ rfl,by rw[Nat.add_assoc];exact hcs 1 _ rfl,by rw[Nat.add_assoc];exact hcs 2 _ rfl,by rw[Nat.add_assoc];exact hcs 3 _ rfl⟩
theorem VF.elems {F:Nat→Prop}{w:World}{a:Option Addr}{n cap:Nat}{l:List Val}(h:VF F w (.slice a n cap) l):n=l.length∧n≤maxLen∧(l=[]∨∃g off,a=some ⟨g,off,none⟩∧F g∧g<w.heap.size∧∀(i:Nat) (x:Val),l[i]? =some x→∃c,CF F w c x∧
 w.cell? ⟨g,off+i*4,none⟩=some (.int .i64 c.kind)∧w.cell? ⟨g,off+i*4+1,none⟩=some (.int .i64 c.n)∧w.cell? ⟨g,off+i*4+2,none⟩=some (.string c.s)∧w.cell? ⟨g,off+i*4+3,none⟩=some (.slice c.la c.ln c.lc)):=by
 obtain⟨h1,h2⟩:=h.elem
 refine⟨h1,?_,?_⟩
 ·cases h with
  |mk _ cs _ hr hl h hv4=>
   have:=hr.length_le
   omega
 ·cases l with
  |nil=>exact .inl rfl
  |cons x r=>
   obtain⟨c,g,off,hc,ha,hF,hg,_⟩:=h2 0 x rfl
   refine .inr ⟨g,off,ha,hF,hg,fun i y hy=> ?_⟩
   obtain⟨c',g',off',hc',ha',_,_,h3⟩:=h2 i y hy
   rw[ha]at ha'
   cases ha'
   exact⟨c',hc',h3⟩
structure Gl (P:Program)(N:Nat)(w:World):Prop where
 m:∃m:Int,w.cell? ⟨0,0,none⟩=some (.int .i64 m)
 es:∃tp p,w.var? P "strconv.ErrSyntax" =some #[.iface tp p]
 er:∃tp p,w.var? P "strconv.ErrRange" =some #[.iface tp p]
 tab:Lib.TabIs P w "internal/strconv.uint64pow10" .u64 Lib.pow10Tab
 gs:∃g1 g2 g3,P.globalNamed "strconv.ErrSyntax" =some g1∧P.globalNamed "strconv.ErrRange" =some g2∧P.globalNamed "internal/strconv.uint64pow10" =some g3∧g1<N∧g2<N∧g3<N
 n0:0<N
 n:N≤w.heap.size
theorem var_keep {P:Program}{w w':World}{s:String}{g:Nat}(hg:P.globalNamed s=some g)(h:w'.heap[g]? =w.heap[g]?):w'.var? P s=w.var? P s:=by
 simp[World.var?,hg,h]
theorem Gl.keep {P:Program}{N:Nat}{S:Nat→Prop}{w w':World}(h:Gl P N w)(K:Keeps S w w')(hs:∀j,S j→N≤j):Gl P N w':=by
 obtain⟨h1,h2,h3,h4,⟨g1,g2,g3,e1,e2,e3,l1,l2,l3⟩,h6,h7⟩:=h
 have hb:∀g,g<N→w'.heap[g]? =w.heap[g]? :=fun g hg=>K.block g (by omega) (fun hS=>by have:=hs g hS;omega)
 refine⟨?_,?_,?_,?_,⟨g1,g2,g3,e1,e2,e3,l1,l2,l3⟩,h6,Nat.le_trans h7 K.size⟩
 ·rw[World.cell?_of_block (w:=w) (hb 0 h6)];exact h1
 ·rw[var_keep e1 (hb g1 l1)];exact h2
 ·rw[var_keep e2 (hb g2 l2)];exact h3
 ·unfold Lib.TabIs;rw[var_keep e3 (hb g3 l3)];exact h4
theorem Gl.below {P:Program}{N:Nat}{w w':World}(h:Gl P N w)(K:Below w.heap.size w w'):Gl P N w':=h.keep (S:=fun _=>False) (zkb K) (fun _ f=>f.elim)
theorem Gl.alloc {P:Program}{N:Nat}{w:World}(h:Gl P N w)(o:Obj):Gl P N (w.alloc o):=h.keep ((Keeps.refl (fun _=>False) w).alloc o) (fun _ f=>f.elim)
end Go.Va
namespace Go.Va
open Go.Own Go.RowKit
inductive PR where
 |ok (x:Val) (k:Nat)
 |deep
 |bad
def digC (c:UInt8):Bool:=decide (48≤c.toNat∧c.toNat≤57)
def digN:List UInt8→Nat
 |[]=>0
 |c::r=>bif digC c then digN r+1 else 0
def numAt (s:List UInt8)(k:Nat):Nat:=if eatL s k 45 then k+1 else k
def numEnd (s:List UInt8)(k:Nat):Nat:=numAt s k+digN (s.drop (numAt s k))
def numT (s:List UInt8)(k:Nat):List UInt8:=(s.drop k).take (numEnd s k - k)
def numR (s:List UInt8)(k:Nat):PR:=
 match Lib.parseIntB 64 (numT s k)with
 | .ok v=>if Lib.itoa v=numT s k then .ok (.mk 1 v ⟨#[]⟩ []) (numEnd s k)else .bad
 |_=>.bad
end Go.Va
namespace Go.Proofs.YtakljipkaoahnaaGreatDoor
open Go.RowKit Go.Own Go.Own.MapTy Go.Va Go.Sort
open Go.Own.Cells (sz enc)
def NPost (w:World)(b:Nat)(s:ByteArray)(k:Nat)(deep:Bool)(e:Ending)(w':World):Prop:=
 TX w' b s (numEnd s.data.toList k) deep∧Keeps (fun j=>j=b) w w'∧match numR s.data.toList k with
  | .ok x k2=>(e= .returned (.tuple #[.int .i64 x.num,.bool true])∧x= .mk 1 x.num ⟨#[]⟩ []∧k2=numEnd s.data.toList k)
  |_=>∃n:Int,e= .returned (.tuple #[.int .i64 n,.bool false])
def eat2 (b:Nat)(s:ByteArray)(k:Nat)(deep:Bool)(c:UInt8)(w:World)(e:Ending)(w':World):Prop:=
 e= .returned (.bool (eatL s.data.toList k c))∧Hid (TX w' b s (bif eatL s.data.toList k c then k+1 else k) deep∧Keeps (fun j=>j=b) w w')
def IPost (w:World)(s:ByteArray)(e:Ending)(w':World):Prop:=
 Below w.heap.size w w'∧match Lib.parseIntB 64 s.data.toList with
  | .ok v=>e= .returned (.tuple #[.int .i64 v,.nilIface])
  |_=>∃(n:Int) (t:TypeId) (p:Value),e= .returned (.tuple #[.int .i64 n,.iface t p])
theorem below_grow (w:World)(k:Nat)(os:Array Obj):Below w.heap.size w (grow (w.drewN k) os):=
 ⟨rfl,rfl,rfl,by simp[grow,World.drewN],fun j hj=>by simp[grow,World.drewN,Array.getElem?_append_left hj]⟩
theorem formatInt_any {N:Nat}(n:Int)(h0: -9223372036854775808≤n)(h1:n≤9223372036854775807)(w:World)(G:Gl Tryz.prog N w):
 Calls Tryz.prog 95 #[.int .i64 n,.int .i64 10] w fun e w'=>e= .returned (.string ⟨(Lib.itoa n).toArray⟩)∧Below w.heap.size w w':=by
 refine(Any.strconv_FormatInt_10 Tryz.laysM173 n h0 h1 w G.tab).mono ?_
 rintro e w' ⟨rfl,k,os,rfl⟩
 exact⟨rfl,below_grow w k os⟩
def NRel (w:World)(b:Nat)(s:ByteArray)(j0:Nat)(deep:Bool)(gk:Nat)(wr:World):Prop:=
 ∃k,gk=s.size - k∧k≤s.size∧TX wr b s k deep∧Keeps (fun j=>j=b) w wr∧k+digN (s.data.toList.drop k)=numEnd s.data.toList j0
end Go.Proofs.YtakljipkaoahnaaGreatDoor
namespace Go.Va
open Go.Own Go.RowKit
def walkV:Val→Nat→Nat×Int→Nat×Int
 | .mk k _ s l,d,(p,e)=>
   bif e !=0 then(p,e)else
   bif decide (256≤p)then(p+1,2)else
   bif k==0||k==1 then(p+1,0)else
   bif k==2 then(p+1,bif decide (256<s.size)then 2 else 0)else
   bif k==3 then walkL l (d+1) (p+1,bif decide (8≤d)then 30 else bif decide (64<l.length)then 2 else 0)else(p+1,9)
where walkL:List Val→Nat→Nat×Int→Nat×Int
 |[],_,c=>c
 |x::r,d,c=>bif c.2 !=0 then c else walkL r d (walkV x d c)
theorem walkV_eq (x:Val)(d p:Nat)(e:Int):walkV x d (p,e)=bif e !=0 then(p,e)else
 bif decide (256≤p)then(p+1,2)else
 bif x.kind==0||x.kind==1 then(p+1,0)else
 bif x.kind==2 then(p+1,bif decide (256<x.txt.size)then 2 else 0)else
 bif x.kind==3 then walkV.walkL x.list (d+1) (p+1,bif decide (8≤d)then 30 else bif decide (64<x.list.length)then 2 else 0)else(p+1,9):=by
 cases x
 rw[walkV]
 rfl
theorem walkL_cons (x:Val)(r:List Val)(d:Nat)(c:Nat×Int):walkV.walkL (x::r) d c=bif c.2 !=0 then c else walkV.walkL r d (walkV x d c):=by
 rw[walkV.walkL]
theorem walkL_nil (d:Nat)(c:Nat×Int):walkV.walkL [] d c=c:=by rw[walkV.walkL]
theorem walkL_err (r:List Val)(d:Nat)(c:Nat×Int)(h:(c.2 !=0)=true):walkV.walkL r d c=c:=by
 cases r with
 |nil=>rw[walkL_nil]
 |cons x r=>rw[walkL_cons,h];rfl
mutual
theorem walkV_bd:∀(x:Val) (d:Nat) (c:Nat×Int),(c.2=0→c.1≤256)→((walkV x d c).2=0→(walkV x d c).1≤256)
 | .mk k n s l,d,(p,e),h=>by
   rw[walkV]
   cases h1:(e !=0)with
   |true=>simpa using h
   |false=>
    cases h2:decide (256≤p)with
    |true=>simp
    |false=>
     rw[decide_eq_false_iff_not]at h2
     cases h3:(k==0||k==1)with
     |true=>simp;omega
     |false=>
      cases h4:(k==2)with
      |true=>simp;omega
      |false=>
       cases h5:(k==3)with
       |true=>
        simp only[cond_false,cond_true]
        exact walkL_bd l (d+1) _ (fun _=>by simp;omega)
       |false=>simp
theorem walkL_bd:∀(l:List Val) (d:Nat) (c:Nat×Int),(c.2=0→c.1≤256)→((walkV.walkL l d c).2=0→(walkV.walkL l d c).1≤256)
 |[],d,c,h=>by rw[walkL_nil];exact h
 |x::r,d,c,h=>by
  rw[walkL_cons]
  cases h1:(c.2 !=0)with
  |true=>exact h
  |false=>exact walkL_bd r d _ (walkV_bd x d c h)
end
end Go.Va
namespace Go.Proofs.YtakljipkaoahnaaGreatDoor
open Go.RowKit Go.Own Go.Own.MapTy Go.Va Go.Sort
open Go.Own.Cells (sz enc)
def CX (w:World)(b:Nat)(c:Nat×Int):Prop:=w.heap[b]? =some (.cells #[.int .i64 c.1,.int .i64 c.2] 182 (0,0))
theorem CX.c0 {w:World}{b:Nat}{c:Nat×Int}(h:CX w b c):w.cell? ⟨b,0,none⟩=some (.int .i64 c.1):=by rw[zch h];rfl
theorem CX.c1 {w:World}{b:Nat}{c:Nat×Int}(h:CX w b c):w.cell? ⟨b,1,none⟩=some (.int .i64 c.2):=by rw[zch h];rfl
theorem CX.fr {w:World}{b:Nat}{c:Nat×Int}(h:CX w b c)(o:Nat):w.frozen? ⟨b,o,none⟩=false:=zfr h o
theorem CX.lt {w:World}{b:Nat}{c:Nat×Int}(h:CX w b c):b<w.heap.size:=zlt h
theorem CX.keep {w w':World}{b:Nat}{c:Nat×Int}{S:Nat→Prop}(h:CX w b c)(K:Keeps S w w')(hs:¬S b):CX w' b c:=(K.block b h.lt hs).trans h
theorem CX.set0 {w:World}{b p:Nat}{e:Int}(h:CX w b (p,e))(q:Nat):CX (w.setCell ⟨b,0,none⟩ (.int .i64 q)) b (q,e):=by
 unfold CX at h⊢
 simp[World.setCell,Array.getElem?_modify,h]
theorem CX.set1 {w:World}{b p:Nat}{e:Int}(h:CX w b (p,e))(f:Int):CX (w.setCell ⟨b,1,none⟩ (.int .i64 f)) b (p,f):=by
 unfold CX at h⊢
 simp[World.setCell,Array.getElem?_modify,h]
def WPost (w:World)(b:Nat)(r:Nat×Int)(e:Ending)(w':World):Prop:=e= .returned (.tuple #[])∧CX w' b r∧Keeps (fun j=>j=b) w w'
theorem walk_err (x:Val)
 (b d p:Nat)(e:Int)(ck cn:Int)(cs:ByteArray)(la:Option Addr)(ln lc:Nat)(F:Nat→Prop)(w:World)(H:CX w b (p,e))(C:CF F w ⟨ck,cn,cs,la,ln,lc⟩ x)(hF:¬F b)(hd:d≤8)(hp:e=0→p≤256)(r:Nat×Int)(hr:walkV x d (p,e)=r)
 (he:(e !=0)=true):
 Calls Tryz.prog 107 #[.pointer (some ⟨b,0,none⟩),.agg #[.int .i64 ck,.int .i64 cn,.string cs,.slice la ln lc],.int .i64 d] w (WPost w b r)
 :=by
 have _h:=zai hF (zai hd hp)
 have b0:=H.lt
 have c0:=H.c0
 have c1:=H.c1
 have f0:=H.fr
 rw[walkV_eq]at hr
 have hck:ck=x.kind:=C.kind
 have hcs:cs=x.txt:=C.s
 have HH:=zh2 H C
 clear H C
 dsimp only at c0 c1
 go_enter Tryz.func107,Tryz.ntmps107
 rw[he]at hr
 have HR:=zhd hr
 clear hr hck hcs
 go_wp2_with fail
 have hr':=HR.out
 simp only[cond_true]at hr'
 subst hr'
 exact bodyPost_ret (v:=.tuple #[]) (by simp only[results,Tryz.results107];go_simp) rfl ⟨rfl,HH.out.1.keep (S:=fun _=>False) ((Keeps.refl _ _).alloc _) (fun f=>f),(Keeps.refl _ _).alloc _⟩
theorem walk_one (x:Val)
 (b d p:Nat)(e:Int)(ck cn:Int)(cs:ByteArray)(la:Option Addr)(ln lc:Nat)(F:Nat→Prop)(w:World)(H:CX w b (p,e))(C:CF F w ⟨ck,cn,cs,la,ln,lc⟩ x)(hF:¬F b)(hd:d≤8)(hp:e=0→p≤256)(r:Nat×Int)(hr:walkV x d (p,e)=r)
 (he:e=0)(h3:(x.kind==3)=false∨256≤p):
 Calls Tryz.prog 107 #[.pointer (some ⟨b,0,none⟩),.agg #[.int .i64 ck,.int .i64 cn,.string cs,.slice la ln lc],.int .i64 d] w (WPost w b r)
 :=by
 have _h:=zai hF hd
 subst he
 have b0:=H.lt
 have c0:=H.c0
 have c1:=H.c1
 have f0:=H.fr
 rw[walkV_eq]at hr
 have hck:ck=x.kind:=C.kind
 have hcs:cs=x.txt:=C.s
 have HH:=zh2 H C
 clear H C
 dsimp only at c0 c1
 go_enter Tryz.func107,Tryz.ntmps107
 simp only[bne_self_eq_false,cond_false]at hr
 have hp:=hp rfl
 have T0:=HH.out.1.set0 (p+1)
 have K0:Keeps (fun j=>j=b) w (w.setCell ⟨b,0,none⟩ (.int .i64 ((p:Int)+1))):=Keeps.setCell (S:=fun j=>j=b) (p:=⟨b,0,none⟩) (Keeps.refl _ w) (.inl rfl) _
 have KA:∀W,Keeps (fun _=>False) W (W.alloc (.cells #[.int .i64 ck,.int .i64 cn,.string cs,.slice la ln lc] 39)):=fun W=>(Keeps.refl _ _).alloc _
 have HT:=zh3 T0 K0 KA
 clear T0 K0 KA
 cases h2:decide (256≤p)with
 |true=>
  rw[h2]at hr
  rw[decide_eq_true_eq]at h2
  have HR:=zhd hr
  have e2:(256:Int)<(p:Int)+1:=by omega
  clear hr hck hcs
  go_wp2_with fail
  have hr':=HR.out
  simp only[cond_true]at hr'
  subst hr'
  exact bodyPost_ret (v:=.tuple #[]) (by simp only[results,Tryz.results107];go_simp) rfl ⟨rfl,(HT.out.1.set1 2).keep (HT.out.2.2 _) (fun f=>f),((HT.out.2.1.setCell (p:=⟨b,1,none⟩) (.inl rfl) (.int .i64 2)).alloc _)⟩
 |false=>
  rw[h2]at hr
  simp only[cond_false]at hr
  rw[decide_eq_false_iff_not]at h2
  have e2:¬(256:Int)<(p:Int)+1:=by omega
  have h3:=h3.resolve_right h2
  cases h4:(x.kind==0||x.kind==1)with
  |true=>
   rw[h4]at hr
   have HR:=zhd hr
   have h4:ck=0∨ck=1:=by rw[hck];simpa using h4
   clear hr hck hcs h3
   rcases h4 with rfl|rfl
   all_goals
    go_wp2_with fail
    have hr':=HR.out
    simp only[cond_true]at hr'
    subst hr'
    go_end0
    exact⟨rfl,HT.out.1.keep (HT.out.2.2 _) (fun f=>f),HT.out.2.1.alloc _⟩
  |false=>
   rw[h4]at hr
   simp only[cond_false]at hr
   rw[Bool.or_eq_false_iff,←hck]at h4
   obtain⟨k0,k1⟩:=h4
   cases k2:(x.kind==2)with
   |true=>
    rw[k2]at hr
    simp only[cond_true,←hcs]at hr
    obtain rfl:ck=2:=by rw[hck];simpa using k2
    cases hs:decide (256<cs.size)with
    |true=>
     rw[hs]at hr
     have HR:=zhd hr
     rw[decide_eq_true_eq]at hs
     have e5:(256:Int)<cs.size:=by omega
     clear hr hck hcs h3 k0 k1 k2
     go_wp2_with fail
     have hr':=HR.out
     simp only[cond_true]at hr'
     subst hr'
     go_end0
     exact⟨rfl,(HT.out.1.set1 2).keep (HT.out.2.2 _) (fun f=>f),((HT.out.2.1.setCell (p:=⟨b,1,none⟩) (.inl rfl) (.int .i64 2)).alloc _)⟩
    |false=>
     rw[hs]at hr
     have HR:=zhd hr
     rw[decide_eq_false_iff_not]at hs
     have e5:¬(256:Int)<cs.size:=by omega
     clear hr hck hcs h3 k0 k1 k2
     go_wp2_with fail
     have hr':=HR.out
     simp only[cond_false]at hr'
     subst hr'
     go_end0
     exact⟨rfl,HT.out.1.keep (HT.out.2.2 _) (fun f=>f),HT.out.2.1.alloc _⟩
   |false=>
    rw[k2,h3]at hr
    have HR:=zhd hr
    rw[←hck]at k2 h3
    clear hr hck hcs
    go_wp2_with fail
    have hr':=HR.out
    simp only[cond_false]at hr'
    subst hr'
    go_end0
    exact⟨rfl,(HT.out.1.set1 9).keep (HT.out.2.2 _) (fun f=>f),((HT.out.2.1.setCell (p:=⟨b,1,none⟩) (.inl rfl) (.int .i64 9)).alloc _)⟩
def WRel (w:World)(b d:Nat)(x:Val)(r:Nat×Int)(gk:Nat)(v64:Value)(wr:World):Prop:=
 ∃(i:Nat) (cur:Nat×Int),v64= .int .i64 i∧i≤x.list.length∧gk=x.list.length - i∧CX wr b cur∧Keeps (fun j=>j=b) w wr∧walkV.walkL (x.list.drop i) (d+1) cur=r∧(cur.2=0→cur.1≤256∧d<8)∧w.heap.size<wr.heap.size
theorem walk_list (n:Nat)(IH:∀(x:Val),x.parts≤n→∀(b d p:Nat) (e:Int) (c:VC) (F:Nat→Prop) (w:World),CX w b (p,e)→CF F w c x→¬F b→d≤8→(e=0→p≤256)→
 Calls Tryz.prog 107 #[.pointer (some ⟨b,0,none⟩),.agg #[.int .i64 c.kind,.int .i64 c.n,.string c.s,.slice c.la c.ln c.lc],.int .i64 d] w (WPost w b (walkV x d (p,e))))
 (x:Val)
 (b d p:Nat)(e:Int)(ck cn:Int)(cs:ByteArray)(la:Option Addr)(ln lc:Nat)(F:Nat→Prop)(w:World)(H:CX w b (p,e))(C:CF F w ⟨ck,cn,cs,la,ln,lc⟩ x)(hF:¬F b)(hd:d≤8)(hp:e=0→p≤256)(r:Nat×Int)(hr:walkV x d (p,e)=r)
 (he:e=0)(h3:(x.kind==3)=true)(h2:¬256≤p)(hx:x.parts≤n+1)(g off:Nat)
 (hel:ln=x.list.length∧ln≤maxLen∧(∀(i:Nat) (y:Val),x.list[i]? =some y→F g∧g<w.heap.size∧∃c,CF F w c y∧
   w.cell? ⟨g,off+i*4,none⟩=some (.int .i64 c.kind)∧w.cell? ⟨g,off+i*4+1,none⟩=some (.int .i64 c.n)∧w.cell? ⟨g,off+i*4+2,none⟩=some (.string c.s)∧w.cell? ⟨g,off+i*4+3,none⟩=some (.slice c.la c.ln c.lc)))(hla:la=some ⟨g,off,none⟩):
 Calls Tryz.prog 107 #[.pointer (some ⟨b,0,none⟩),.agg #[.int .i64 ck,.int .i64 cn,.string cs,.slice la ln lc],.int .i64 d] w (WPost w b r)
 :=by
 subst he
 subst hla
 have b0:=H.lt
 have c0:=H.c0
 have c1:=H.c1
 have f0:=H.fr
 rw[walkV_eq]at hr
 have hck:ck=x.kind:=C.kind
 have hcs:cs=x.txt:=C.s
 have HH:=zh2 H C
 clear H C
 dsimp only at c0 c1
 simp only[bne_self_eq_false,cond_false]at hr
 have hp:=hp rfl
 have HI:=zhd IH
 have k0:(x.kind==0||x.kind==1)=false:=by have:=beq_iff_eq.1 h3;rw[this];rfl
 have k2:(x.kind==2)=false:=by have:=beq_iff_eq.1 h3;rw[this];rfl
 have hck3:ck=3:=by rw[hck];exact beq_iff_eq.1 h3
 subst hck3
 rw[k0,k2,h3]at hr
 have hd2:decide (256≤p)=false:=by rw[decide_eq_false_iff_not];exact h2
 rw[hd2]at hr
 simp only[cond_false,cond_true]at hr
 have e2:¬(256:Int)<(p:Int)+1:=by omega
 obtain⟨hln,hlm,hel⟩:=hel
 rw[←hln]at hr
 have HE:=zhd hel
 have HL:=zhd hln
 unfold maxLen at hlm
 have T0:=HH.out.1.set0 (p+1)
 have K0:Keeps (fun j=>j=b) w (w.setCell ⟨b,0,none⟩ (.int .i64 ((p:Int)+1))):=Keeps.setCell (S:=fun j=>j=b) (p:=⟨b,0,none⟩) (Keeps.refl _ w) (.inl rfl) _
 have KA:∀W,Keeps (fun _=>False) W (W.alloc (.cells #[.int .i64 3,.int .i64 cn,.string cs,.slice (some ⟨g,off,none⟩) ln lc] 39)):=fun W=>(Keeps.refl _ _).alloc _
 have HT:=zh3 T0 K0 KA
 clear T0 K0 KA hck hcs k0 k2 h3 hd2 IH hel hln h2
 go_enter Tryz.func107,Tryz.ntmps107
 have cases3:(∃e1:Int,walkV.walkL x.list (d+1) (p+1,e1)=r∧((8≤d∧e1=30)∨(¬8≤d∧64<ln∧e1=2)∨(¬8≤d∧¬64<ln∧e1=0))):=by
  refine⟨_,hr,?_⟩
  by_cases h8:8≤d
  ·exact .inl ⟨h8,by simp[h8]⟩
  ·by_cases h64:64<ln
   ·exact .inr (.inl ⟨h8,h64,by simp[h8,h64]⟩)
   ·exact .inr (.inr ⟨h8,h64,by simp[h8,h64]⟩)
 clear hr
 obtain⟨e1,hr,hc3⟩:=cases3
 have HR:=zhd hr
 clear hr
 rcases hc3 with⟨h8,rfl⟩|⟨h8,h64,rfl⟩|⟨h8,h64,rfl⟩
 ·have t8:(8:Int)≤d:=by omega
  go_wp2_with fail
  have T1:=(HT.out.1.set1 30).keep (HT.out.2.2 _) (fun f=>f)
  have K1:=(HT.out.2.1.setCell (p:=⟨b,1,none⟩) (.inl rfl) (.int .i64 30)).alloc (.cells #[.int .i64 3,.int .i64 cn,.string cs,.slice (some ⟨g,off,none⟩) ln lc] 39)
  go_loopg [64] (x.list.length) (fun gk v64 wr=>WRel w b d x r gk v64 wr)
  case atStart=>exact⟨0,(p+1,(30:Int)),rfl,Nat.zero_le _,rfl,T1,K1,HR.out,(by intro h;first|(simp at h;done)|(constructor<;>omega)),by simp⟩
  case round=>
   clear T1 K1 c0 c1 f0
   obtain⟨i,cur,rfl,hi,hgk,hT,hK,hw,hbd,hsz⟩:=hrel
   have c0:=hT.c0
   have c1:=hT.c1
   have f0:=hT.fr
   have b1:=hT.lt
   by_cases hin:i<ln
   ·obtain⟨y,hy⟩:=elem_at (l:=x.list) (k:=i) (by have:=HL.out;omega)
    obtain⟨hFg,hg,c',hC,q0,q1,q2,q3⟩:=HE.out i y hy
    have hgb:g≠b:=fun e=>hF (e▸hFg)
    have hgl:g<wr.heap.size:=by omega
    rw[←hK.cell (p:=⟨g,_,none⟩) hg hgb]at q0 q1 q2 q3
    have hdr:x.list.drop i=y::x.list.drop (i+1):=by
     rw[List.drop_eq_getElem_cons (zge hy).1,(zge hy).2]
    rw[hdr,walkL_cons]at hw
    have hC':=hC.keep hK (fun g h e=>hF (e▸h))
    have hyp:y.parts≤n:=by
     have:=Val.parts_lt (v:=x) (zmg hy)
     omega
    have hin':(i:Int)<ln:=by omega
    cases hce:(cur.2 !=0)with
    |true=>
     rw[hce]at hw
     have HX:=zh3 hw hT hK
     clear hw hT hK hgk hbd hC hC' hdr hy
     go_wp2_with fail
     have hr':=HX.out.1
     simp only[cond_true]at hr'
     subst hr'
     exact bodyPost_ret (v:=.tuple #[]) (by simp only[results,Tryz.results107];go_simp) rfl ⟨rfl,HX.out.2.1.keep (S:=fun _=>False) ((Keeps.refl _ _).alloc _) (fun f=>f),HX.out.2.2.alloc _⟩
    |false=>
     rw[hce]at hw
     have hc0:cur.2=0:=by simpa using hce
     obtain⟨hb1,hb2⟩:=hbd hc0
     exfalso
     omega
   ·obtain rfl:i=ln:=by have:=HL.out;omega
    rw[List.drop_eq_nil_of_le (by have:=HL.out;omega),walkL_nil]at hw
    have HX:=zh3 hw hT hK
    clear hw hT hK hgk hbd
    go_wp2_with fail
    have hr':=HX.out.1
    subst hr'
    go_end0
    exact⟨rfl,HX.out.2.1,HX.out.2.2⟩
 ·have t8:¬(8:Int)≤d:=by omega
  have t64:(64:Int)<ln:=by omega
  go_wp2_with fail
  have T1:=(HT.out.1.set1 2).keep (HT.out.2.2 _) (fun f=>f)
  have K1:=(HT.out.2.1.setCell (p:=⟨b,1,none⟩) (.inl rfl) (.int .i64 2)).alloc (.cells #[.int .i64 3,.int .i64 cn,.string cs,.slice (some ⟨g,off,none⟩) ln lc] 39)
  go_loopg [64] (x.list.length) (fun gk v64 wr=>WRel w b d x r gk v64 wr)
  case atStart=>exact⟨0,(p+1,(2:Int)),rfl,Nat.zero_le _,rfl,T1,K1,HR.out,(by intro h;first|(simp at h;done)|(constructor<;>omega)),by simp⟩
  case round=>
   clear T1 K1 c0 c1 f0
   obtain⟨i,cur,rfl,hi,hgk,hT,hK,hw,hbd,hsz⟩:=hrel
   have c0:=hT.c0
   have c1:=hT.c1
   have f0:=hT.fr
   have b1:=hT.lt
   by_cases hin:i<ln
   ·obtain⟨y,hy⟩:=elem_at (l:=x.list) (k:=i) (by have:=HL.out;omega)
    obtain⟨hFg,hg,c',hC,q0,q1,q2,q3⟩:=HE.out i y hy
    have hgb:g≠b:=fun e=>hF (e▸hFg)
    have hgl:g<wr.heap.size:=by omega
    rw[←hK.cell (p:=⟨g,_,none⟩) hg hgb]at q0 q1 q2 q3
    have hdr:x.list.drop i=y::x.list.drop (i+1):=by
     rw[List.drop_eq_getElem_cons (zge hy).1,(zge hy).2]
    rw[hdr,walkL_cons]at hw
    have hC':=hC.keep hK (fun g h e=>hF (e▸h))
    have hyp:y.parts≤n:=by
     have:=Val.parts_lt (v:=x) (zmg hy)
     omega
    have hin':(i:Int)<ln:=by omega
    cases hce:(cur.2 !=0)with
    |true=>
     rw[hce]at hw
     have HX:=zh3 hw hT hK
     clear hw hT hK hgk hbd hC hC' hdr hy
     go_wp2_with fail
     have hr':=HX.out.1
     simp only[cond_true]at hr'
     subst hr'
     exact bodyPost_ret (v:=.tuple #[]) (by simp only[results,Tryz.results107];go_simp) rfl ⟨rfl,HX.out.2.1.keep (S:=fun _=>False) ((Keeps.refl _ _).alloc _) (fun f=>f),HX.out.2.2.alloc _⟩
    |false=>
     rw[hce]at hw
     have hc0:cur.2=0:=by simpa using hce
     obtain⟨hb1,hb2⟩:=hbd hc0
     have HX:=zh4 hw hT hK hgk
     have hTA:=hT.keep (S:=fun _=>False) ((Keeps.refl _ _).alloc (.cells #[.int .i64 c'.kind,.int .i64 c'.n,.string c'.s,.slice c'.la c'.ln c'.lc] 39)) (fun f=>f)
     have hCA:=hC'.keep (S:=fun _=>False) ((Keeps.refl _ _).alloc (.cells #[.int .i64 c'.kind,.int .i64 c'.n,.string c'.s,.slice c'.la c'.ln c'.lc] 39)) (fun _ _ f=>f)
     have CA:=zhd (HI.out y hyp b (d+1) cur.1 cur.2 c' F _ hTA hCA hF (by omega) (fun _=>hb1))
     clear hw hT hK hgk hbd hC hC' hdr hy hTA hCA
     go_wp2_with fail
     refine CA.out.mono ?_
     rintro e w5 ⟨rfl,hT5,hK5⟩
     have hb5:=walkV_bd y (d+1) (cur.1,cur.2) (fun _=>hb1)
     have H5:=zh3 hT5 hK5 hb5
     clear hT5 hK5 hb5
     go_wp2_with fail
     go_roundg (x.list.length - (i+1))
     case measure=>have:=HX.out.2.2.2;have:=HL.out;omega
     case rel=>
      have hw':=HX.out.1
      simp only[cond_false]at hw'
      refine⟨i+1,_,by simp,(by have:=HL.out;omega),rfl,H5.out.1,(HX.out.2.2.1.alloc _).trans H5.out.2.1 (fun _ _ e=>e),hw',(fun h=>⟨H5.out.2.2 h,hb2⟩),?_⟩
      have:=H5.out.2.1.size
      simp at this
      omega
   ·obtain rfl:i=ln:=by have:=HL.out;omega
    rw[List.drop_eq_nil_of_le (by have:=HL.out;omega),walkL_nil]at hw
    have HX:=zh3 hw hT hK
    clear hw hT hK hgk hbd
    go_wp2_with fail
    have hr':=HX.out.1
    subst hr'
    go_end0
    exact⟨rfl,HX.out.2.1,HX.out.2.2⟩
 ·have t8:¬(8:Int)≤d:=by omega
  have t64:¬(64:Int)<ln:=by omega
  go_wp2_with fail
  have T1:=HT.out.1.keep (HT.out.2.2 _) (fun f=>f)
  have K1:=HT.out.2.1.alloc (.cells #[.int .i64 3,.int .i64 cn,.string cs,.slice (some ⟨g,off,none⟩) ln lc] 39)
  go_loopg [64] (x.list.length) (fun gk v64 wr=>WRel w b d x r gk v64 wr)
  case atStart=>exact⟨0,(p+1,(0:Int)),rfl,Nat.zero_le _,rfl,T1,K1,HR.out,(by intro h;first|(simp at h;done)|(constructor<;>omega)),by simp⟩
  case round=>
   clear T1 K1 c0 c1 f0
   obtain⟨i,cur,rfl,hi,hgk,hT,hK,hw,hbd,hsz⟩:=hrel
   have c0:=hT.c0
   have c1:=hT.c1
   have f0:=hT.fr
   have b1:=hT.lt
   by_cases hin:i<ln
   ·obtain⟨y,hy⟩:=elem_at (l:=x.list) (k:=i) (by have:=HL.out;omega)
    obtain⟨hFg,hg,c',hC,q0,q1,q2,q3⟩:=HE.out i y hy
    have hgb:g≠b:=fun e=>hF (e▸hFg)
    have hgl:g<wr.heap.size:=by omega
    rw[←hK.cell (p:=⟨g,_,none⟩) hg hgb]at q0 q1 q2 q3
    have hdr:x.list.drop i=y::x.list.drop (i+1):=by
     rw[List.drop_eq_getElem_cons (zge hy).1,(zge hy).2]
    rw[hdr,walkL_cons]at hw
    have hC':=hC.keep hK (fun g h e=>hF (e▸h))
    have hyp:y.parts≤n:=by
     have:=Val.parts_lt (v:=x) (zmg hy)
     omega
    have hin':(i:Int)<ln:=by omega
    cases hce:(cur.2 !=0)with
    |true=>
     rw[hce]at hw
     have HX:=zh3 hw hT hK
     clear hw hT hK hgk hbd hC hC' hdr hy
     go_wp2_with fail
     have hr':=HX.out.1
     simp only[cond_true]at hr'
     subst hr'
     exact bodyPost_ret (v:=.tuple #[]) (by simp only[results,Tryz.results107];go_simp) rfl ⟨rfl,HX.out.2.1.keep (S:=fun _=>False) ((Keeps.refl _ _).alloc _) (fun f=>f),HX.out.2.2.alloc _⟩
    |false=>
     rw[hce]at hw
     have hc0:cur.2=0:=by simpa using hce
     obtain⟨hb1,hb2⟩:=hbd hc0
     have HX:=zh4 hw hT hK hgk
     have hTA:=hT.keep (S:=fun _=>False) ((Keeps.refl _ _).alloc (.cells #[.int .i64 c'.kind,.int .i64 c'.n,.string c'.s,.slice c'.la c'.ln c'.lc] 39)) (fun f=>f)
     have hCA:=hC'.keep (S:=fun _=>False) ((Keeps.refl _ _).alloc (.cells #[.int .i64 c'.kind,.int .i64 c'.n,.string c'.s,.slice c'.la c'.ln c'.lc] 39)) (fun _ _ f=>f)
     have CA:=zhd (HI.out y hyp b (d+1) cur.1 cur.2 c' F _ hTA hCA hF (by omega) (fun _=>hb1))
     clear hw hT hK hgk hbd hC hC' hdr hy hTA hCA
     go_wp2_with fail
     refine CA.out.mono ?_
     rintro e w5 ⟨rfl,hT5,hK5⟩
     have hb5:=walkV_bd y (d+1) (cur.1,cur.2) (fun _=>hb1)
     have H5:=zh3 hT5 hK5 hb5
     clear hT5 hK5 hb5
     go_wp2_with fail
     go_roundg (x.list.length - (i+1))
     case measure=>have:=HX.out.2.2.2;have:=HL.out;omega
     case rel=>
      have hw':=HX.out.1
      simp only[cond_false]at hw'
      refine⟨i+1,_,by simp,(by have:=HL.out;omega),rfl,H5.out.1,(HX.out.2.2.1.alloc _).trans H5.out.2.1 (fun _ _ e=>e),hw',(fun h=>⟨H5.out.2.2 h,hb2⟩),?_⟩
      have:=H5.out.2.1.size
      simp at this
      omega
   ·obtain rfl:i=ln:=by have:=HL.out;omega
    rw[List.drop_eq_nil_of_le (by have:=HL.out;omega),walkL_nil]at hw
    have HX:=zh3 hw hT hK
    clear hw hT hK hgk hbd
    go_wp2_with fail
    have hr':=HX.out.1
    subst hr'
    go_end0
    exact⟨rfl,HX.out.2.1,HX.out.2.2⟩
theorem walk_list0 (x:Val)
 (b d p:Nat)(e:Int)(ck cn:Int)(cs:ByteArray)(la:Option Addr)(ln lc:Nat)(F:Nat→Prop)(w:World)(H:CX w b (p,e))(C:CF F w ⟨ck,cn,cs,la,ln,lc⟩ x)(hF:¬F b)(hd:d≤8)(hp:e=0→p≤256)(r:Nat×Int)(hr:walkV x d (p,e)=r)
 (he:e=0)(h3:(x.kind==3)=true)(h2:¬256≤p)(hl:x.list=[])(hl0:ln=0):
 Calls Tryz.prog 107 #[.pointer (some ⟨b,0,none⟩),.agg #[.int .i64 ck,.int .i64 cn,.string cs,.slice la ln lc],.int .i64 d] w (WPost w b r)
 :=by
 have _h:=hF
 subst he
 subst hl0
 have b0:=H.lt
 have c0:=H.c0
 have c1:=H.c1
 have f0:=H.fr
 rw[walkV_eq]at hr
 have hck:ck=x.kind:=C.kind
 have hcs:cs=x.txt:=C.s
 have HH:=zh2 H C
 clear H C
 dsimp only at c0 c1
 simp only[bne_self_eq_false,cond_false]at hr
 have hp:=hp rfl
 have k0:(x.kind==0||x.kind==1)=false:=by have:=beq_iff_eq.1 h3;rw[this];rfl
 have k2:(x.kind==2)=false:=by have:=beq_iff_eq.1 h3;rw[this];rfl
 have hck3:ck=3:=by rw[hck];exact beq_iff_eq.1 h3
 subst hck3
 rw[k0,k2,h3]at hr
 have hd2:decide (256≤p)=false:=by rw[decide_eq_false_iff_not];exact h2
 rw[hd2,hl,walkL_nil]at hr
 simp only[cond_false,cond_true]at hr
 have e2:¬(256:Int)<(p:Int)+1:=by omega
 have T0:=HH.out.1.set0 (p+1)
 have K0:Keeps (fun j=>j=b) w (w.setCell ⟨b,0,none⟩ (.int .i64 ((p:Int)+1))):=Keeps.setCell (S:=fun j=>j=b) (p:=⟨b,0,none⟩) (Keeps.refl _ w) (.inl rfl) _
 have KA:∀W,Keeps (fun _=>False) W (W.alloc (.cells #[.int .i64 3,.int .i64 cn,.string cs,.slice la 0 lc] 39)):=fun W=>(Keeps.refl _ _).alloc _
 have HT:=zh3 T0 K0 KA
 clear T0 K0 KA hck hcs k0 k2 h3 hd2 h2
 go_enter Tryz.func107,Tryz.ntmps107
 by_cases h8:8≤d
 ·have t8:(8:Int)≤d:=by omega
  have t9:decide (8≤d)=true:=by rw[decide_eq_true_eq];exact h8
  rw[t9]at hr
  have HR:=zhd hr
  clear hr t9
  go_wp2_with fail
  have T1:=(HT.out.1.set1 30).keep (HT.out.2.2 _) (fun f=>f)
  have K1:=(HT.out.2.1.setCell (p:=⟨b,1,none⟩) (.inl rfl) (.int .i64 30)).alloc (.cells #[.int .i64 3,.int .i64 cn,.string cs,.slice la 0 lc] 39)
  go_loopg [64] (0) (fun _ v64 wr=>v64= .int .i64 0∧CX wr b (p+1,30)∧Keeps (fun j=>j=b) w wr)
  case atStart=>exact⟨rfl,T1,K1⟩
  case round=>
   obtain⟨rfl,hT,hK⟩:=hrel
   have hr':=HR.out
   simp only[cond_true]at hr'
   subst hr'
   clear c0 c1 f0 T1 K1 HR
   go_wp2_with fail
   go_end0
   exact⟨rfl,hT,hK⟩
 ·have t8:¬(8:Int)≤d:=by omega
  have t9:decide (8≤d)=false:=by rw[decide_eq_false_iff_not];exact h8
  rw[t9]at hr
  have HR:=zhd hr
  clear hr t9
  go_wp2_with fail
  have T1:=HT.out.1.keep (HT.out.2.2 _) (fun f=>f)
  have K1:=HT.out.2.1.alloc (.cells #[.int .i64 3,.int .i64 cn,.string cs,.slice la 0 lc] 39)
  go_loopg [64] (0) (fun _ v64 wr=>v64= .int .i64 0∧CX wr b (p+1,0)∧Keeps (fun j=>j=b) w wr)
  case atStart=>exact⟨rfl,T1,K1⟩
  case round=>
   obtain⟨rfl,hT,hK⟩:=hrel
   have hr':=HR.out
   simp at hr'
   subst hr'
   clear c0 c1 f0 T1 K1 HR
   go_wp2_with fail
   go_end0
   exact⟨rfl,hT,hK⟩
theorem walk_any:∀(n:Nat) (x:Val),x.parts≤n→∀(b d p:Nat) (e:Int) (c:VC) (F:Nat→Prop) (w:World),CX w b (p,e)→CF F w c x→¬F b→d≤8→(e=0→p≤256)→
 Calls Tryz.prog 107 #[.pointer (some ⟨b,0,none⟩),.agg #[.int .i64 c.kind,.int .i64 c.n,.string c.s,.slice c.la c.ln c.lc],.int .i64 d] w (WPost w b (walkV x d (p,e)))
 |0,x,hx,_,_,_,_,_,_,_,_,_,_,_,_=>by have:=x.parts_pos;omega
 |n+1,x,hx,b,d,p,e,⟨ck,cn,cs,la,ln,lc⟩,F,w,H,C,hF,hd,hp=>by
  cases he:(e !=0)with
  |true=>exact walk_err x b d p e ck cn cs la ln lc F w H C hF hd hp _ rfl he
  |false=>
   have he0:e=0:=by simpa using he
   by_cases h2:256≤p
   ·exact walk_one x b d p e ck cn cs la ln lc F w H C hF hd hp _ rfl he0 (.inr h2)
   ·cases h3:(x.kind==3)with
    |false=>exact walk_one x b d p e ck cn cs la ln lc F w H C hF hd hp _ rfl he0 (.inl h3)
    |true=>
     obtain⟨h4,h5,h6⟩:=C.l.elems
     rcases h6 with h6|⟨g,off,hla,hFg,hg,h6⟩
     ·exact walk_list0 x b d p e ck cn cs la ln lc F w H C hF hd hp _ rfl he0 h3 h2 h6 (by rw[show ln=x.list.length from h4,h6];rfl)
     ·exact walk_list n (fun y hy=>walk_any n y hy) x b d p e ck cn cs la ln lc F w H C hF hd hp _ rfl he0 h3 h2 hx g off ⟨h4,h5,fun i y hy=>⟨hFg,hg,h6 i y hy⟩⟩ hla
end Go.Proofs.YtakljipkaoahnaaGreatDoor
