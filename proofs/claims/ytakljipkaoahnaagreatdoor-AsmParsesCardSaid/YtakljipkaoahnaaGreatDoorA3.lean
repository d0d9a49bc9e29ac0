/- Parts of the proof: what the functions and the plain laws give that later parts lean on. Conditions: none beyond those that each theorem names. -/
import Derived.Shelf.LaysM
import Derived.Shelf.LaysC
import Derived.Shelf.Small.Strs
import Derived.Shelf.Small.Wraps
import Derived.Shelf.Strings.Prefix
import Derived.Shelf.Strings.Cut
import Derived.Shelf.Strings.Split
import Derived.Shelf.Strings.OnBuilder
import Derived.Shelf.Strconv.Itoa3
import Derived.Shelf.Strconv.Itoa4
import Derived.Shelf.Strconv.AtoiAll
import Derived.Shelf.Strconv.ParseIntPublic10
import Derived.Test.YtakljipkaoahnaaGreatDoorProg
import Derived.Lib.IndexLaws
import Derived.Test.YtakljipkaoahnaaGreatDoorA2
set_option maxRecDepth 100000
set_option maxHeartbeats 8000000
namespace Go.Proofs
open Go.Shelf
def Tryz.lays106_ren:Go.Shelf.Ren:=⟨fun|106=>93|213=>129|265=>157|n=>n,fun|9=>9|3=>3|n=>n,fun|n=>n⟩
theorem Tryz.lays106:Go.Proofs.Lays.n106 Tryz.prog Tryz.lays106_ren:={
 mixed:=by kernel_rfl
 f106:=Tryz.func93.trans (congrArg some (by kernel_rfl))
 f213:=Tryz.func129.trans (congrArg some (by kernel_rfl))
 f265:=Tryz.func157.trans (congrArg some (by kernel_rfl))
 t3:=Tryz.underlying3
 a3:=Tryz.isAgg3
 z3:=Tryz.sizeOf3
 v3:=Tryz.zeroValue3
 t9:=Tryz.underlying9
 a9:=Tryz.isAgg9
 z9:=Tryz.sizeOf9
 v9:=Tryz.zeroValue9}
def Tryz.lays137_ren:Go.Shelf.Ren:=⟨fun|137=>132|217=>162|266=>183|n=>n,fun|9=>9|5=>5|3=>3|n=>n,fun|n=>n⟩
theorem Tryz.lays137:Go.Proofs.Lays.n137 Tryz.prog Tryz.lays137_ren:={
 mixed:=by kernel_rfl
 f137:=Tryz.func132.trans (congrArg some (by kernel_rfl))
 f217:=Tryz.func162.trans (congrArg some (by kernel_rfl))
 f266:=Tryz.func183.trans (congrArg some (by kernel_rfl))
 t3:=Tryz.underlying3
 a3:=Tryz.isAgg3
 z3:=Tryz.sizeOf3
 v3:=Tryz.zeroValue3
 t5:=Tryz.underlying5
 a5:=Tryz.isAgg5
 z5:=Tryz.sizeOf5
 v5:=Tryz.zeroValue5
 t9:=Tryz.underlying9
 a9:=Tryz.isAgg9
 z9:=Tryz.sizeOf9
 v9:=Tryz.zeroValue9}
def Tryz.lays103_ren:Go.Shelf.Ren:=⟨fun|103=>84|210=>118|206=>153|n=>n,fun|9=>9|4=>4|24=>86|3=>3|n=>n,fun|n=>n⟩
theorem Tryz.lays103:Go.Proofs.Lays.n103 Tryz.prog Tryz.lays103_ren:={
 mixed:=by kernel_rfl
 f103:=Tryz.func84.trans (congrArg some (by kernel_rfl))
 f206:=Tryz.func153.trans (congrArg some (by kernel_rfl))
 f210:=Tryz.func118.trans (congrArg some (by kernel_rfl))
 t3:=Tryz.underlying3
 a3:=Tryz.isAgg3
 z3:=Tryz.sizeOf3
 v3:=Tryz.zeroValue3
 t4:=Tryz.underlying4
 a4:=Tryz.isAgg4
 z4:=Tryz.sizeOf4
 v4:=Tryz.zeroValue4
 t9:=Tryz.underlying9
 a9:=Tryz.isAgg9
 z9:=Tryz.sizeOf9
 v9:=Tryz.zeroValue9
 t24:=Tryz.underlying86
 a24:=Tryz.isAgg86
 z24:=Tryz.sizeOf86
 v24:=Tryz.zeroValue86}
def Tryz.lays104_ren:Go.Shelf.Ren:=⟨fun|104=>33|211=>81|207=>114|n=>n,fun|9=>9|4=>4|24=>86|3=>3|n=>n,fun|n=>n⟩
theorem Tryz.lays104:Go.Proofs.Lays.n104 Tryz.prog Tryz.lays104_ren:={
 mixed:=by kernel_rfl
 f104:=Tryz.func33.trans (congrArg some (by kernel_rfl))
 f207:=Tryz.func114.trans (congrArg some (by kernel_rfl))
 f211:=Tryz.func81.trans (congrArg some (by kernel_rfl))
 t3:=Tryz.underlying3
 a3:=Tryz.isAgg3
 z3:=Tryz.sizeOf3
 v3:=Tryz.zeroValue3
 t4:=Tryz.underlying4
 a4:=Tryz.isAgg4
 z4:=Tryz.sizeOf4
 v4:=Tryz.zeroValue4
 t9:=Tryz.underlying9
 a9:=Tryz.isAgg9
 z9:=Tryz.sizeOf9
 v9:=Tryz.zeroValue9
 t24:=Tryz.underlying86
 a24:=Tryz.isAgg86
 z24:=Tryz.sizeOf86
 v24:=Tryz.zeroValue86}
def Tryz.lays99_ren:Go.Shelf.Ren:=⟨fun|99=>122|206=>153|n=>n,fun|9=>9|4=>4|3=>3|n=>n,fun|n=>n⟩
theorem Tryz.lays99:Go.Proofs.Lays.n99 Tryz.prog Tryz.lays99_ren:={
 mixed:=by kernel_rfl
 f99:=Tryz.func122.trans (congrArg some (by kernel_rfl))
 f206:=Tryz.func153.trans (congrArg some (by kernel_rfl))
 t3:=Tryz.underlying3
 a3:=Tryz.isAgg3
 z3:=Tryz.sizeOf3
 v3:=Tryz.zeroValue3
 t4:=Tryz.underlying4
 a4:=Tryz.isAgg4
 z4:=Tryz.sizeOf4
 v4:=Tryz.zeroValue4
 t9:=Tryz.underlying9
 a9:=Tryz.isAgg9
 z9:=Tryz.sizeOf9
 v9:=Tryz.zeroValue9}
def Tryz.lays145_ren:Go.Shelf.Ren:=⟨fun|145=>85|220=>119|219=>152|217=>162|225=>172|224=>173|267=>174|266=>183|314=>185|n=>n,fun|9=>9|4=>4|59=>157|3=>3|5=>5|46=>189|146=>246|51=>238|n=>n,fun|1=>0|n=>n⟩
theorem Tryz.lays145:Go.Proofs.Lays.n145 Tryz.prog Tryz.lays145_ren:={
 mixed:=by kernel_rfl
 f145:=Tryz.func85.trans (congrArg some (by kernel_rfl))
 f217:=Tryz.func162.trans (congrArg some (by kernel_rfl))
 f219:=Tryz.func152.trans (congrArg some (by kernel_rfl))
 f220:=Tryz.func119.trans (congrArg some (by kernel_rfl))
 f224:=Tryz.func173.trans (congrArg some (by kernel_rfl))
 f225:=Tryz.func172.trans (congrArg some (by kernel_rfl))
 f266:=Tryz.func183.trans (congrArg some (by kernel_rfl))
 f267:=Tryz.func174.trans (congrArg some (by kernel_rfl))
 f314:=Tryz.func185.trans (congrArg some (by kernel_rfl))
 t3:=Tryz.underlying3
 a3:=Tryz.isAgg3
 z3:=Tryz.sizeOf3
 v3:=Tryz.zeroValue3
 t4:=Tryz.underlying4
 a4:=Tryz.isAgg4
 z4:=Tryz.sizeOf4
 v4:=Tryz.zeroValue4
 t5:=Tryz.underlying5
 a5:=Tryz.isAgg5
 z5:=Tryz.sizeOf5
 v5:=Tryz.zeroValue5
 t9:=Tryz.underlying9
 a9:=Tryz.isAgg9
 z9:=Tryz.sizeOf9
 v9:=Tryz.zeroValue9
 t46:=Tryz.underlying189
 a46:=Tryz.isAgg189
 z46:=Tryz.sizeOf189
 v46:=Tryz.zeroValue189
 t51:=Tryz.underlying238
 a51:=Tryz.isAgg238
 z51:=Tryz.sizeOf238
 v51:=Tryz.zeroValue238
 t59:=Tryz.underlying157
 a59:=Tryz.isAgg157
 z59:=Tryz.sizeOf157
 v59:=Tryz.zeroValue157
 t146:=Tryz.underlying246
 a146:=Tryz.isAgg246
 z146:=Tryz.sizeOf246
 v146:=Tryz.zeroValue246
 g1:=by kernel_rfl}
def Tryz.lays146_ren:Go.Shelf.Ren:=⟨fun|146=>34|221=>82|268=>115|138=>116|143=>117|195=>149|197=>150|218=>151|219=>152|260=>171|217=>162|225=>172|224=>173|267=>174|266=>183|314=>185|n=>n,fun|9=>9|31=>25|3=>3|4=>4|0=>0|105=>218|21=>21|5=>5|46=>189|119=>242|139=>245|138=>244|146=>246|51=>238|n=>n,fun|1=>0|3=>2|4=>3|n=>n⟩
theorem Tryz.lays146:Go.Proofs.Lays.n146 Tryz.prog Tryz.lays146_ren:={
 mixed:=by kernel_rfl
 f138:=Tryz.func116.trans (congrArg some (by kernel_rfl))
 f143:=Tryz.func117.trans (congrArg some (by kernel_rfl))
 f146:=Tryz.func34.trans (congrArg some (by kernel_rfl))
 f195:=Tryz.func149.trans (congrArg some (by kernel_rfl))
 f197:=Tryz.func150.trans (congrArg some (by kernel_rfl))
 f217:=Tryz.func162.trans (congrArg some (by kernel_rfl))
 f218:=Tryz.func151.trans (congrArg some (by kernel_rfl))
 f219:=Tryz.func152.trans (congrArg some (by kernel_rfl))
 f221:=Tryz.func82.trans (congrArg some (by kernel_rfl))
 f224:=Tryz.func173.trans (congrArg some (by kernel_rfl))
 f225:=Tryz.func172.trans (congrArg some (by kernel_rfl))
 f260:=Tryz.func171.trans (congrArg some (by kernel_rfl))
 f266:=Tryz.func183.trans (congrArg some (by kernel_rfl))
 f267:=Tryz.func174.trans (congrArg some (by kernel_rfl))
 f268:=Tryz.func115.trans (congrArg some (by kernel_rfl))
 f314:=Tryz.func185.trans (congrArg some (by kernel_rfl))
 t0:=Tryz.underlying0
 a0:=Tryz.isAgg0
 z0:=Tryz.sizeOf0
 v0:=Tryz.zeroValue0
 t3:=Tryz.underlying3
 a3:=Tryz.isAgg3
 z3:=Tryz.sizeOf3
 v3:=Tryz.zeroValue3
 t4:=Tryz.underlying4
 a4:=Tryz.isAgg4
 z4:=Tryz.sizeOf4
 v4:=Tryz.zeroValue4
 t5:=Tryz.underlying5
 a5:=Tryz.isAgg5
 z5:=Tryz.sizeOf5
 v5:=Tryz.zeroValue5
 t9:=Tryz.underlying9
 a9:=Tryz.isAgg9
 z9:=Tryz.sizeOf9
 v9:=Tryz.zeroValue9
 t21:=Tryz.underlying21
 a21:=Tryz.isAgg21
 z21:=Tryz.sizeOf21
 v21:=Tryz.zeroValue21
 t31:=Tryz.underlying25
 a31:=Tryz.isAgg25
 z31:=Tryz.sizeOf25
 v31:=Tryz.zeroValue25
 t46:=Tryz.underlying189
 a46:=Tryz.isAgg189
 z46:=Tryz.sizeOf189
 v46:=Tryz.zeroValue189
 t51:=Tryz.underlying238
 a51:=Tryz.isAgg238
 z51:=Tryz.sizeOf238
 v51:=Tryz.zeroValue238
 t105:=Tryz.underlying218
 a105:=Tryz.isAgg218
 z105:=Tryz.sizeOf218
 v105:=Tryz.zeroValue218
 t119:=Tryz.underlying242
 a119:=Tryz.isAgg242
 z119:=Tryz.sizeOf242
 t138:=Tryz.underlying244
 a138:=Tryz.isAgg244
 z138:=Tryz.sizeOf244
 v138:=Tryz.zeroValue244
 t139:=Tryz.underlying245
 a139:=Tryz.isAgg245
 z139:=Tryz.sizeOf245
 v139:=Tryz.zeroValue245
 t146:=Tryz.underlying246
 a146:=Tryz.isAgg246
 z146:=Tryz.sizeOf246
 v146:=Tryz.zeroValue246
 g1:=by kernel_rfl
 g3:=by kernel_rfl
 g4:=by kernel_rfl}
def Tryz.lays171_ren:Go.Shelf.Ren:=⟨fun|171=>76|243=>113|246=>130|283=>158|284=>159|285=>160|286=>161|129=>179|317=>178|318=>180|319=>181|320=>182|337=>191|338=>192|n=>n,fun|3=>3|9=>9|2=>2|4=>4|171=>223|0=>0|53=>201|37=>140|5=>5|173=>226|212=>237|51=>238|20=>20|213=>239|46=>189|232=>259|233=>260|n=>n,fun|17=>1|18=>6|19=>7|n=>n⟩
theorem Tryz.lays171:Go.Proofs.Lays.n171 Tryz.prog Tryz.lays171_ren:={
 mixed:=by kernel_rfl
 f129:=Tryz.func179.trans (congrArg some (by kernel_rfl))
 f171:=Tryz.func76.trans (congrArg some (by kernel_rfl))
 f243:=Tryz.func113.trans (congrArg some (by kernel_rfl))
 f246:=Tryz.func130.trans (congrArg some (by kernel_rfl))
 f283:=Tryz.func158.trans (congrArg some (by kernel_rfl))
 f284:=Tryz.func159.trans (congrArg some (by kernel_rfl))
 f285:=Tryz.func160.trans (congrArg some (by kernel_rfl))
 f286:=Tryz.func161.trans (congrArg some (by kernel_rfl))
 f317:=Tryz.func178.trans (congrArg some (by kernel_rfl))
 f318:=Tryz.func180.trans (congrArg some (by kernel_rfl))
 f319:=Tryz.func181.trans (congrArg some (by kernel_rfl))
 f320:=Tryz.func182.trans (congrArg some (by kernel_rfl))
 f337:=Tryz.func191.trans (congrArg some (by kernel_rfl))
 f338:=Tryz.func192.trans (congrArg some (by kernel_rfl))
 t0:=Tryz.underlying0
 a0:=Tryz.isAgg0
 z0:=Tryz.sizeOf0
 v0:=Tryz.zeroValue0
 t2:=Tryz.underlying2
 a2:=Tryz.isAgg2
 z2:=Tryz.sizeOf2
 v2:=Tryz.zeroValue2
 t3:=Tryz.underlying3
 a3:=Tryz.isAgg3
 z3:=Tryz.sizeOf3
 v3:=Tryz.zeroValue3
 t4:=Tryz.underlying4
 a4:=Tryz.isAgg4
 z4:=Tryz.sizeOf4
 v4:=Tryz.zeroValue4
 t5:=Tryz.underlying5
 a5:=Tryz.isAgg5
 z5:=Tryz.sizeOf5
 v5:=Tryz.zeroValue5
 t9:=Tryz.underlying9
 a9:=Tryz.isAgg9
 z9:=Tryz.sizeOf9
 v9:=Tryz.zeroValue9
 t20:=Tryz.underlying20
 a20:=Tryz.isAgg20
 z20:=Tryz.sizeOf20
 v20:=Tryz.zeroValue20
 t37:=Tryz.underlying140
 a37:=Tryz.isAgg140
 z37:=Tryz.sizeOf140
 v37:=Tryz.zeroValue140
 t46:=Tryz.underlying189
 a46:=Tryz.isAgg189
 z46:=Tryz.sizeOf189
 v46:=Tryz.zeroValue189
 t51:=Tryz.underlying238
 a51:=Tryz.isAgg238
 z51:=Tryz.sizeOf238
 v51:=Tryz.zeroValue238
 t53:=Tryz.underlying201
 a53:=Tryz.isAgg201
 z53:=Tryz.sizeOf201
 v53:=Tryz.zeroValue201
 t171:=Tryz.underlying223
 a171:=Tryz.isAgg223
 z171:=Tryz.sizeOf223
 v171:=Tryz.zeroValue223
 t173:=Tryz.underlying226
 a173:=Tryz.isAgg226
 z173:=Tryz.sizeOf226
 v173:=Tryz.zeroValue226
 t212:=Tryz.underlying237
 a212:=Tryz.isAgg237
 z212:=Tryz.sizeOf237
 v212:=Tryz.zeroValue237
 t213:=Tryz.underlying239
 a213:=Tryz.isAgg239
 z213:=Tryz.sizeOf239
 t232:=Tryz.underlying259
 a232:=Tryz.isAgg259
 z232:=Tryz.sizeOf259
 v232:=Tryz.zeroValue259
 t233:=Tryz.underlying260
 a233:=Tryz.isAgg260
 z233:=Tryz.sizeOf260
 v233:=Tryz.zeroValue260
 g17:=by kernel_rfl
 g18:=by kernel_rfl
 g19:=by kernel_rfl}
def Tryz.laysM171_ren:Go.Shelf.Ren:=⟨fun|171=>76|243=>113|246=>130|283=>158|284=>159|285=>160|286=>161|129=>179|317=>178|318=>180|319=>181|320=>182|337=>191|338=>192|n=>n,fun|3=>3|9=>9|2=>2|4=>4|171=>223|0=>0|53=>201|37=>140|5=>5|173=>226|212=>237|51=>238|20=>20|213=>239|46=>189|232=>259|233=>260|n=>n,fun|17=>1|18=>6|19=>7|n=>n⟩
theorem Tryz.laysM171:Go.Proofs.LaysM.n171 Tryz.prog Tryz.laysM171_ren:={
 mixed:=by kernel_rfl
 f129:=Tryz.func179.trans (congrArg some (by kernel_rfl))
 f171:=Tryz.func76.trans (congrArg some (by kernel_rfl))
 f243:=Tryz.func113.trans (congrArg some (by kernel_rfl))
 f246:=Tryz.func130.trans (congrArg some (by kernel_rfl))
 f283:=Tryz.func158.trans (congrArg some (by kernel_rfl))
 f284:=Tryz.func159.trans (congrArg some (by kernel_rfl))
 f285:=Tryz.func160.trans (congrArg some (by kernel_rfl))
 f286:=Tryz.func161.trans (congrArg some (by kernel_rfl))
 f317:=Tryz.func178.trans (congrArg some (by kernel_rfl))
 f318:=Tryz.func180.trans (congrArg some (by kernel_rfl))
 f319:=Tryz.func181.trans (congrArg some (by kernel_rfl))
 f320:=Tryz.func182.trans (congrArg some (by kernel_rfl))
 f337:=Tryz.func191.trans (congrArg some (by kernel_rfl))
 f338:=Tryz.func192.trans (congrArg some (by kernel_rfl))
 t0:=Tryz.underlying0
 a0:=Tryz.isAgg0
 z0:=Tryz.sizeOf0
 v0:=Tryz.zeroValue0
 t2:=Tryz.underlying2
 a2:=Tryz.isAgg2
 z2:=Tryz.sizeOf2
 v2:=Tryz.zeroValue2
 t3:=Tryz.underlying3
 a3:=Tryz.isAgg3
 z3:=Tryz.sizeOf3
 v3:=Tryz.zeroValue3
 t4:=Tryz.underlying4
 a4:=Tryz.isAgg4
 z4:=Tryz.sizeOf4
 v4:=Tryz.zeroValue4
 t5:=Tryz.underlying5
 a5:=Tryz.isAgg5
 z5:=Tryz.sizeOf5
 v5:=Tryz.zeroValue5
 t9:=Tryz.underlying9
 a9:=Tryz.isAgg9
 z9:=Tryz.sizeOf9
 v9:=Tryz.zeroValue9
 t20:=Tryz.underlying20
 a20:=Tryz.isAgg20
 z20:=Tryz.sizeOf20
 v20:=Tryz.zeroValue20
 t37:=Tryz.underlying140
 a37:=Tryz.isAgg140
 z37:=Tryz.sizeOf140
 v37:=Tryz.zeroValue140
 t46:=Tryz.underlying189
 a46:=Tryz.isAgg189
 z46:=Tryz.sizeOf189
 v46:=Tryz.zeroValue189
 t51:=Tryz.underlying238
 a51:=Tryz.isAgg238
 z51:=Tryz.sizeOf238
 v51:=Tryz.zeroValue238
 t53:=Tryz.underlying201
 a53:=Tryz.isAgg201
 z53:=Tryz.sizeOf201
 v53:=Tryz.zeroValue201
 t171:=Tryz.underlying223
 a171:=Tryz.isAgg223
 z171:=Tryz.sizeOf223
 v171:=Tryz.zeroValue223
 t173:=Tryz.underlying226
 a173:=Tryz.isAgg226
 z173:=Tryz.sizeOf226
 v173:=Tryz.zeroValue226
 t212:=Tryz.underlying237
 a212:=Tryz.isAgg237
 z212:=Tryz.sizeOf237
 v212:=Tryz.zeroValue237
 t213:=Tryz.underlying239
 a213:=Tryz.isAgg239
 z213:=Tryz.sizeOf239
 t232:=Tryz.underlying259
 a232:=Tryz.isAgg259
 z232:=Tryz.sizeOf259
 v232:=Tryz.zeroValue259
 t233:=Tryz.underlying260
 a233:=Tryz.isAgg260
 z233:=Tryz.sizeOf260
 v233:=Tryz.zeroValue260
 g17:=by kernel_rfl
 g18:=by kernel_rfl
 g19:=by kernel_rfl
 i0:=by kernel_rfl
 i2:=by kernel_rfl
 i3:=by kernel_rfl
 i4:=by kernel_rfl
 i5:=by kernel_rfl
 i9:=by kernel_rfl
 i20:=by kernel_rfl
 i37:=by kernel_rfl
 i46:=by kernel_rfl
 i51:=by kernel_rfl
 i53:=by kernel_rfl
 i171:=by kernel_rfl
 i173:=by kernel_rfl
 i212:=by kernel_rfl
 i232:=by kernel_rfl
 i233:=by kernel_rfl
 m17:=by kernel_rfl
 m18:=by kernel_rfl
 m19:=by kernel_rfl}
def Tryz.laysM173_ren:Go.Shelf.Ren:=⟨fun|173=>95|246=>130|283=>158|284=>159|285=>160|286=>161|129=>179|317=>178|318=>180|319=>181|320=>182|337=>191|338=>192|n=>n,fun|2=>2|3=>3|9=>9|4=>4|171=>223|0=>0|53=>201|37=>140|5=>5|173=>226|212=>237|51=>238|20=>20|213=>239|46=>189|232=>259|233=>260|n=>n,fun|17=>1|18=>6|19=>7|n=>n⟩
theorem Tryz.laysM173:Go.Proofs.LaysM.n173 Tryz.prog Tryz.laysM173_ren:={
 mixed:=by kernel_rfl
 f129:=Tryz.func179.trans (congrArg some (by kernel_rfl))
 f173:=Tryz.func95.trans (congrArg some (by kernel_rfl))
 f246:=Tryz.func130.trans (congrArg some (by kernel_rfl))
 f283:=Tryz.func158.trans (congrArg some (by kernel_rfl))
 f284:=Tryz.func159.trans (congrArg some (by kernel_rfl))
 f285:=Tryz.func160.trans (congrArg some (by kernel_rfl))
 f286:=Tryz.func161.trans (congrArg some (by kernel_rfl))
 f317:=Tryz.func178.trans (congrArg some (by kernel_rfl))
 f318:=Tryz.func180.trans (congrArg some (by kernel_rfl))
 f319:=Tryz.func181.trans (congrArg some (by kernel_rfl))
 f320:=Tryz.func182.trans (congrArg some (by kernel_rfl))
 f337:=Tryz.func191.trans (congrArg some (by kernel_rfl))
 f338:=Tryz.func192.trans (congrArg some (by kernel_rfl))
 t0:=Tryz.underlying0
 a0:=Tryz.isAgg0
 z0:=Tryz.sizeOf0
 v0:=Tryz.zeroValue0
 t2:=Tryz.underlying2
 a2:=Tryz.isAgg2
 z2:=Tryz.sizeOf2
 v2:=Tryz.zeroValue2
 t3:=Tryz.underlying3
 a3:=Tryz.isAgg3
 z3:=Tryz.sizeOf3
 v3:=Tryz.zeroValue3
 t4:=Tryz.underlying4
 a4:=Tryz.isAgg4
 z4:=Tryz.sizeOf4
 v4:=Tryz.zeroValue4
 t5:=Tryz.underlying5
 a5:=Tryz.isAgg5
 z5:=Tryz.sizeOf5
 v5:=Tryz.zeroValue5
 t9:=Tryz.underlying9
 a9:=Tryz.isAgg9
 z9:=Tryz.sizeOf9
 v9:=Tryz.zeroValue9
 t20:=Tryz.underlying20
 a20:=Tryz.isAgg20
 z20:=Tryz.sizeOf20
 v20:=Tryz.zeroValue20
 t37:=Tryz.underlying140
 a37:=Tryz.isAgg140
 z37:=Tryz.sizeOf140
 v37:=Tryz.zeroValue140
 t46:=Tryz.underlying189
 a46:=Tryz.isAgg189
 z46:=Tryz.sizeOf189
 v46:=Tryz.zeroValue189
 t51:=Tryz.underlying238
 a51:=Tryz.isAgg238
 z51:=Tryz.sizeOf238
 v51:=Tryz.zeroValue238
 t53:=Tryz.underlying201
 a53:=Tryz.isAgg201
 z53:=Tryz.sizeOf201
 v53:=Tryz.zeroValue201
 t171:=Tryz.underlying223
 a171:=Tryz.isAgg223
 z171:=Tryz.sizeOf223
 v171:=Tryz.zeroValue223
 t173:=Tryz.underlying226
 a173:=Tryz.isAgg226
 z173:=Tryz.sizeOf226
 v173:=Tryz.zeroValue226
 t212:=Tryz.underlying237
 a212:=Tryz.isAgg237
 z212:=Tryz.sizeOf237
 v212:=Tryz.zeroValue237
 t213:=Tryz.underlying239
 a213:=Tryz.isAgg239
 z213:=Tryz.sizeOf239
 t232:=Tryz.underlying259
 a232:=Tryz.isAgg259
 z232:=Tryz.sizeOf259
 v232:=Tryz.zeroValue259
 t233:=Tryz.underlying260
 a233:=Tryz.isAgg260
 z233:=Tryz.sizeOf260
 v233:=Tryz.zeroValue260
 g17:=by kernel_rfl
 g18:=by kernel_rfl
 g19:=by kernel_rfl
 i0:=by kernel_rfl
 i2:=by kernel_rfl
 i3:=by kernel_rfl
 i4:=by kernel_rfl
 i5:=by kernel_rfl
 i9:=by kernel_rfl
 i20:=by kernel_rfl
 i37:=by kernel_rfl
 i46:=by kernel_rfl
 i51:=by kernel_rfl
 i53:=by kernel_rfl
 i171:=by kernel_rfl
 i173:=by kernel_rfl
 i212:=by kernel_rfl
 i232:=by kernel_rfl
 i233:=by kernel_rfl
 m17:=by kernel_rfl
 m18:=by kernel_rfl
 m19:=by kernel_rfl}
def Tryz.laysC172_ren:Go.Shelf.Ren:=⟨fun|172=>154|244=>175|245=>176|247=>177|279=>186|280=>187|281=>188|282=>189|287=>190|316=>193|171=>76|205=>194|321=>195|322=>196|243=>113|246=>130|283=>158|284=>159|285=>160|286=>161|129=>179|317=>178|318=>180|319=>181|320=>182|337=>191|338=>192|n=>n,fun|9=>9|3=>3|75=>144|76=>145|4=>4|5=>5|167=>248|37=>140|0=>0|85=>221|2=>2|168=>249|53=>201|175=>252|46=>189|210=>256|127=>190|145=>263|143=>261|21=>21|171=>223|173=>226|212=>237|51=>238|20=>20|213=>239|232=>259|233=>260|80=>69|n=>n,fun|15=>4|16=>5|17=>1|18=>6|19=>7|n=>n⟩
theorem Tryz.laysC172:Go.Proofs.LaysC.n172 Tryz.prog Tryz.laysC172_ren:={
 mixed:=by kernel_rfl
 f129:=Tryz.func179.trans (congrArg some (by kernel_rfl))
 f171:=Tryz.func76.trans (congrArg some (by kernel_rfl))
 f172:=Tryz.func154.trans (congrArg some (by kernel_rfl))
 f205:=Tryz.func194.trans (congrArg some (by kernel_rfl))
 f243:=Tryz.func113.trans (congrArg some (by kernel_rfl))
 f244:=Tryz.func175.trans (congrArg some (by kernel_rfl))
 f245:=Tryz.func176.trans (congrArg some (by kernel_rfl))
 f246:=Tryz.func130.trans (congrArg some (by kernel_rfl))
 f247:=Tryz.func177.trans (congrArg some (by kernel_rfl))
 f279:=Tryz.func186.trans (congrArg some (by kernel_rfl))
 f280:=Tryz.func187.trans (congrArg some (by kernel_rfl))
 f281:=Tryz.func188.trans (congrArg some (by kernel_rfl))
 f282:=Tryz.func189.trans (congrArg some (by kernel_rfl))
 f283:=Tryz.func158.trans (congrArg some (by kernel_rfl))
 f284:=Tryz.func159.trans (congrArg some (by kernel_rfl))
 f285:=Tryz.func160.trans (congrArg some (by kernel_rfl))
 f286:=Tryz.func161.trans (congrArg some (by kernel_rfl))
 f287:=Tryz.func190.trans (congrArg some (by kernel_rfl))
 f316:=Tryz.func193.trans (congrArg some (by kernel_rfl))
 f317:=Tryz.func178.trans (congrArg some (by kernel_rfl))
 f318:=Tryz.func180.trans (congrArg some (by kernel_rfl))
 f319:=Tryz.func181.trans (congrArg some (by kernel_rfl))
 f320:=Tryz.func182.trans (congrArg some (by kernel_rfl))
 f321:=Tryz.func195.trans (congrArg some (by kernel_rfl))
 f322:=Tryz.func196.trans (congrArg some (by kernel_rfl))
 f337:=Tryz.func191.trans (congrArg some (by kernel_rfl))
 f338:=Tryz.func192.trans (congrArg some (by kernel_rfl))
 t0:=Tryz.underlying0
 a0:=Tryz.isAgg0
 z0:=Tryz.sizeOf0
 v0:=Tryz.zeroValue0
 t2:=Tryz.underlying2
 a2:=Tryz.isAgg2
 z2:=Tryz.sizeOf2
 v2:=Tryz.zeroValue2
 t3:=Tryz.underlying3
 a3:=Tryz.isAgg3
 z3:=Tryz.sizeOf3
 v3:=Tryz.zeroValue3
 t4:=Tryz.underlying4
 a4:=Tryz.isAgg4
 z4:=Tryz.sizeOf4
 v4:=Tryz.zeroValue4
 t5:=Tryz.underlying5
 a5:=Tryz.isAgg5
 z5:=Tryz.sizeOf5
 v5:=Tryz.zeroValue5
 t9:=Tryz.underlying9
 a9:=Tryz.isAgg9
 z9:=Tryz.sizeOf9
 v9:=Tryz.zeroValue9
 t20:=Tryz.underlying20
 a20:=Tryz.isAgg20
 z20:=Tryz.sizeOf20
 v20:=Tryz.zeroValue20
 t21:=Tryz.underlying21
 a21:=Tryz.isAgg21
 z21:=Tryz.sizeOf21
 v21:=Tryz.zeroValue21
 t37:=Tryz.underlying140
 a37:=Tryz.isAgg140
 z37:=Tryz.sizeOf140
 v37:=Tryz.zeroValue140
 t46:=Tryz.underlying189
 a46:=Tryz.isAgg189
 z46:=Tryz.sizeOf189
 v46:=Tryz.zeroValue189
 t51:=Tryz.underlying238
 a51:=Tryz.isAgg238
 z51:=Tryz.sizeOf238
 v51:=Tryz.zeroValue238
 t53:=Tryz.underlying201
 a53:=Tryz.isAgg201
 z53:=Tryz.sizeOf201
 v53:=Tryz.zeroValue201
 t75:=Tryz.underlying144
 a75:=Tryz.isAgg144
 z75:=Tryz.sizeOf144
 v75:=Tryz.zeroValue144
 t76:=Tryz.underlying145
 a76:=Tryz.isAgg145
 z76:=Tryz.sizeOf145
 v76:=Tryz.zeroValue145
 t85:=Tryz.underlying221
 a85:=Tryz.isAgg221
 z85:=Tryz.sizeOf221
 v85:=Tryz.zeroValue221
 t127:=Tryz.underlying190
 a127:=Tryz.isAgg190
 z127:=Tryz.sizeOf190
 v127:=Tryz.zeroValue190
 t143:=Tryz.underlying261
 a143:=Tryz.isAgg261
 z143:=Tryz.sizeOf261
 v143:=Tryz.zeroValue261
 t145:=Tryz.underlying263
 a145:=Tryz.isAgg263
 z145:=Tryz.sizeOf263
 v145:=Tryz.zeroValue263
 t167:=Tryz.underlying248
 a167:=Tryz.isAgg248
 z167:=Tryz.sizeOf248
 v167:=Tryz.zeroValue248
 t168:=Tryz.underlying249
 a168:=Tryz.isAgg249
 z168:=Tryz.sizeOf249
 v168:=Tryz.zeroValue249
 t171:=Tryz.underlying223
 a171:=Tryz.isAgg223
 z171:=Tryz.sizeOf223
 v171:=Tryz.zeroValue223
 t173:=Tryz.underlying226
 a173:=Tryz.isAgg226
 z173:=Tryz.sizeOf226
 v173:=Tryz.zeroValue226
 t175:=Tryz.underlying252
 a175:=Tryz.isAgg252
 z175:=Tryz.sizeOf252
 v175:=Tryz.zeroValue252
 t210:=Tryz.underlying256
 a210:=Tryz.isAgg256
 z210:=Tryz.sizeOf256
 v210:=Tryz.zeroValue256
 t212:=Tryz.underlying237
 a212:=Tryz.isAgg237
 z212:=Tryz.sizeOf237
 v212:=Tryz.zeroValue237
 t213:=Tryz.underlying239
 a213:=Tryz.isAgg239
 z213:=Tryz.sizeOf239
 t232:=Tryz.underlying259
 a232:=Tryz.isAgg259
 z232:=Tryz.sizeOf259
 v232:=Tryz.zeroValue259
 t233:=Tryz.underlying260
 a233:=Tryz.isAgg260
 z233:=Tryz.sizeOf260
 v233:=Tryz.zeroValue260
 g15:=by kernel_rfl
 g16:=by kernel_rfl
 g17:=by kernel_rfl
 g18:=by kernel_rfl
 g19:=by kernel_rfl
 t80:=Tryz.underlying69
 a80:=Tryz.isAgg69
 z80:=Tryz.sizeOf69
 v80:=Tryz.zeroValue69
 i0:=by kernel_rfl
 i2:=by kernel_rfl
 i3:=by kernel_rfl
 i4:=by kernel_rfl
 i5:=by kernel_rfl
 i9:=by kernel_rfl
 i20:=by kernel_rfl
 i21:=by kernel_rfl
 i37:=by kernel_rfl
 i46:=by kernel_rfl
 i51:=by kernel_rfl
 i53:=by kernel_rfl
 i75:=by kernel_rfl
 i76:=by kernel_rfl
 i80:=by kernel_rfl
 i85:=by kernel_rfl
 i127:=by kernel_rfl
 i143:=by kernel_rfl
 i145:=by kernel_rfl
 i167:=by kernel_rfl
 i168:=by kernel_rfl
 i171:=by kernel_rfl
 i173:=by kernel_rfl
 i175:=by kernel_rfl
 i210:=by kernel_rfl
 i212:=by kernel_rfl
 i232:=by kernel_rfl
 i233:=by kernel_rfl
 m15:=by kernel_rfl
 m16:=by kernel_rfl
 m17:=by kernel_rfl
 m18:=by kernel_rfl
 m19:=by kernel_rfl
 c0:=by kernel_rfl
 c2:=by kernel_rfl
 c3:=by kernel_rfl
 c4:=by kernel_rfl
 c5:=by kernel_rfl
 c9:=by kernel_rfl
 c20:=by kernel_rfl
 c21:=by kernel_rfl
 c37:=by kernel_rfl
 c46:=by kernel_rfl
 c51:=by kernel_rfl
 c53:=by kernel_rfl
 c75:=by kernel_rfl
 c76:=by kernel_rfl
 c80:=by kernel_rfl
 c85:=by kernel_rfl
 c127:=by kernel_rfl
 c143:=by kernel_rfl
 c145:=by kernel_rfl
 c167:=by kernel_rfl
 c168:=by kernel_rfl
 c171:=by kernel_rfl
 c173:=by kernel_rfl
 c175:=by kernel_rfl
 c210:=by kernel_rfl
 c212:=by kernel_rfl
 c213:=by kernel_rfl
 c232:=by kernel_rfl
 c233:=by kernel_rfl}
def Tryz.laysC174_ren:Go.Shelf.Ren:=⟨fun|174=>156|247=>177|245=>176|287=>190|279=>186|280=>187|281=>188|282=>189|321=>195|322=>196|316=>193|171=>76|205=>194|243=>113|246=>130|283=>158|284=>159|285=>160|286=>161|129=>179|317=>178|318=>180|319=>181|320=>182|337=>191|338=>192|n=>n,fun|9=>9|3=>3|2=>2|75=>144|85=>221|4=>4|167=>248|5=>5|53=>201|175=>252|46=>189|168=>249|37=>140|0=>0|210=>256|21=>21|127=>190|145=>263|143=>261|171=>223|173=>226|212=>237|51=>238|20=>20|213=>239|232=>259|233=>260|80=>69|n=>n,fun|15=>4|16=>5|17=>1|18=>6|19=>7|n=>n⟩
theorem Tryz.laysC174:Go.Proofs.LaysC.n174 Tryz.prog Tryz.laysC174_ren:={
 mixed:=by kernel_rfl
 f129:=Tryz.func179.trans (congrArg some (by kernel_rfl))
 f171:=Tryz.func76.trans (congrArg some (by kernel_rfl))
 f174:=Tryz.func156.trans (congrArg some (by kernel_rfl))
 f205:=Tryz.func194.trans (congrArg some (by kernel_rfl))
 f243:=Tryz.func113.trans (congrArg some (by kernel_rfl))
 f245:=Tryz.func176.trans (congrArg some (by kernel_rfl))
 f246:=Tryz.func130.trans (congrArg some (by kernel_rfl))
 f247:=Tryz.func177.trans (congrArg some (by kernel_rfl))
 f279:=Tryz.func186.trans (congrArg some (by kernel_rfl))
 f280:=Tryz.func187.trans (congrArg some (by kernel_rfl))
 f281:=Tryz.func188.trans (congrArg some (by kernel_rfl))
 f282:=Tryz.func189.trans (congrArg some (by kernel_rfl))
 f283:=Tryz.func158.trans (congrArg some (by kernel_rfl))
 f284:=Tryz.func159.trans (congrArg some (by kernel_rfl))
 f285:=Tryz.func160.trans (congrArg some (by kernel_rfl))
 f286:=Tryz.func161.trans (congrArg some (by kernel_rfl))
 f287:=Tryz.func190.trans (congrArg some (by kernel_rfl))
 f316:=Tryz.func193.trans (congrArg some (by kernel_rfl))
 f317:=Tryz.func178.trans (congrArg some (by kernel_rfl))
 f318:=Tryz.func180.trans (congrArg some (by kernel_rfl))
 f319:=Tryz.func181.trans (congrArg some (by kernel_rfl))
 f320:=Tryz.func182.trans (congrArg some (by kernel_rfl))
 f321:=Tryz.func195.trans (congrArg some (by kernel_rfl))
 f322:=Tryz.func196.trans (congrArg some (by kernel_rfl))
 f337:=Tryz.func191.trans (congrArg some (by kernel_rfl))
 f338:=Tryz.func192.trans (congrArg some (by kernel_rfl))
 t0:=Tryz.underlying0
 a0:=Tryz.isAgg0
 z0:=Tryz.sizeOf0
 v0:=Tryz.zeroValue0
 t2:=Tryz.underlying2
 a2:=Tryz.isAgg2
 z2:=Tryz.sizeOf2
 v2:=Tryz.zeroValue2
 t3:=Tryz.underlying3
 a3:=Tryz.isAgg3
 z3:=Tryz.sizeOf3
 v3:=Tryz.zeroValue3
 t4:=Tryz.underlying4
 a4:=Tryz.isAgg4
 z4:=Tryz.sizeOf4
 v4:=Tryz.zeroValue4
 t5:=Tryz.underlying5
 a5:=Tryz.isAgg5
 z5:=Tryz.sizeOf5
 v5:=Tryz.zeroValue5
 t9:=Tryz.underlying9
 a9:=Tryz.isAgg9
 z9:=Tryz.sizeOf9
 v9:=Tryz.zeroValue9
 t20:=Tryz.underlying20
 a20:=Tryz.isAgg20
 z20:=Tryz.sizeOf20
 v20:=Tryz.zeroValue20
 t21:=Tryz.underlying21
 a21:=Tryz.isAgg21
 z21:=Tryz.sizeOf21
 v21:=Tryz.zeroValue21
 t37:=Tryz.underlying140
 a37:=Tryz.isAgg140
 z37:=Tryz.sizeOf140
 v37:=Tryz.zeroValue140
 t46:=Tryz.underlying189
 a46:=Tryz.isAgg189
 z46:=Tryz.sizeOf189
 v46:=Tryz.zeroValue189
 t51:=Tryz.underlying238
 a51:=Tryz.isAgg238
 z51:=Tryz.sizeOf238
 v51:=Tryz.zeroValue238
 t53:=Tryz.underlying201
 a53:=Tryz.isAgg201
 z53:=Tryz.sizeOf201
 v53:=Tryz.zeroValue201
 t75:=Tryz.underlying144
 a75:=Tryz.isAgg144
 z75:=Tryz.sizeOf144
 v75:=Tryz.zeroValue144
 t85:=Tryz.underlying221
 a85:=Tryz.isAgg221
 z85:=Tryz.sizeOf221
 v85:=Tryz.zeroValue221
 t127:=Tryz.underlying190
 a127:=Tryz.isAgg190
 z127:=Tryz.sizeOf190
 v127:=Tryz.zeroValue190
 t143:=Tryz.underlying261
 a143:=Tryz.isAgg261
 z143:=Tryz.sizeOf261
 v143:=Tryz.zeroValue261
 t145:=Tryz.underlying263
 a145:=Tryz.isAgg263
 z145:=Tryz.sizeOf263
 v145:=Tryz.zeroValue263
 t167:=Tryz.underlying248
 a167:=Tryz.isAgg248
 z167:=Tryz.sizeOf248
 v167:=Tryz.zeroValue248
 t168:=Tryz.underlying249
 a168:=Tryz.isAgg249
 z168:=Tryz.sizeOf249
 v168:=Tryz.zeroValue249
 t171:=Tryz.underlying223
 a171:=Tryz.isAgg223
 z171:=Tryz.sizeOf223
 v171:=Tryz.zeroValue223
 t173:=Tryz.underlying226
 a173:=Tryz.isAgg226
 z173:=Tryz.sizeOf226
 v173:=Tryz.zeroValue226
 t175:=Tryz.underlying252
 a175:=Tryz.isAgg252
 z175:=Tryz.sizeOf252
 v175:=Tryz.zeroValue252
 t210:=Tryz.underlying256
 a210:=Tryz.isAgg256
 z210:=Tryz.sizeOf256
 v210:=Tryz.zeroValue256
 t212:=Tryz.underlying237
 a212:=Tryz.isAgg237
 z212:=Tryz.sizeOf237
 v212:=Tryz.zeroValue237
 t213:=Tryz.underlying239
 a213:=Tryz.isAgg239
 z213:=Tryz.sizeOf239
 t232:=Tryz.underlying259
 a232:=Tryz.isAgg259
 z232:=Tryz.sizeOf259
 v232:=Tryz.zeroValue259
 t233:=Tryz.underlying260
 a233:=Tryz.isAgg260
 z233:=Tryz.sizeOf260
 v233:=Tryz.zeroValue260
 g15:=by kernel_rfl
 g16:=by kernel_rfl
 g17:=by kernel_rfl
 g18:=by kernel_rfl
 g19:=by kernel_rfl
 t80:=Tryz.underlying69
 a80:=Tryz.isAgg69
 z80:=Tryz.sizeOf69
 v80:=Tryz.zeroValue69
 i0:=by kernel_rfl
 i2:=by kernel_rfl
 i3:=by kernel_rfl
 i4:=by kernel_rfl
 i5:=by kernel_rfl
 i9:=by kernel_rfl
 i20:=by kernel_rfl
 i21:=by kernel_rfl
 i37:=by kernel_rfl
 i46:=by kernel_rfl
 i51:=by kernel_rfl
 i53:=by kernel_rfl
 i75:=by kernel_rfl
 i80:=by kernel_rfl
 i85:=by kernel_rfl
 i127:=by kernel_rfl
 i143:=by kernel_rfl
 i145:=by kernel_rfl
 i167:=by kernel_rfl
 i168:=by kernel_rfl
 i171:=by kernel_rfl
 i173:=by kernel_rfl
 i175:=by kernel_rfl
 i210:=by kernel_rfl
 i212:=by kernel_rfl
 i232:=by kernel_rfl
 i233:=by kernel_rfl
 m15:=by kernel_rfl
 m16:=by kernel_rfl
 m17:=by kernel_rfl
 m18:=by kernel_rfl
 m19:=by kernel_rfl
 c0:=by kernel_rfl
 c2:=by kernel_rfl
 c3:=by kernel_rfl
 c4:=by kernel_rfl
 c5:=by kernel_rfl
 c9:=by kernel_rfl
 c20:=by kernel_rfl
 c21:=by kernel_rfl
 c37:=by kernel_rfl
 c46:=by kernel_rfl
 c51:=by kernel_rfl
 c53:=by kernel_rfl
 c75:=by kernel_rfl
 c80:=by kernel_rfl
 c85:=by kernel_rfl
 c127:=by kernel_rfl
 c143:=by kernel_rfl
 c145:=by kernel_rfl
 c167:=by kernel_rfl
 c168:=by kernel_rfl
 c171:=by kernel_rfl
 c173:=by kernel_rfl
 c175:=by kernel_rfl
 c210:=by kernel_rfl
 c212:=by kernel_rfl
 c213:=by kernel_rfl
 c232:=by kernel_rfl
 c233:=by kernel_rfl}
end Go.Proofs
namespace Go.Va
def labC (i:Nat)(c:UInt8):Bool:=decide ((97≤c.toNat∧c.toNat≤122)∨(0<i∧48≤c.toNat∧c.toNat≤57))
def labFrom:Nat→List UInt8→Bool
 |_,[]=>true
 |i,c::r=>labC i c&&labFrom (i+1) r
theorem labFrom_drop {s:ByteArray}{k:Nat}(h:k<s.size):labFrom k (s.data.toList.drop k)=(labC k s[k]&&labFrom (k+1) (s.data.toList.drop (k+1))):=by
 have h':k<s.data.toList.length:=by simpa using h
 rw[List.drop_eq_getElem_cons h',labFrom]
 rfl
def labL (s:List UInt8):Bool:=labFrom 0 s&&(1≤s.length&&s.length≤16)
def digL (c:UInt8):Int:=Lib.indexByte [48,49,50,51,52,53,54,55,56,57,97,98,99,100,101,102] c
theorem digL_bd (c:UInt8): -1≤digL c∧digL c≤15:=by
 refine⟨Lib.indexByte_ge _ _,?_⟩
 by_cases h:digL c≤15
 ·exact h
 ·exfalso
  obtain⟨o,ho⟩:∃o:Nat,digL c=o:=⟨(digL c).toNat,by omega⟩
  have:=(Lib.indexByte_some ho).1
  have:=(zge this).1
  simp at this
  omega
def eatL (s:List UInt8)(at_:Nat)(c:UInt8):Bool:=match s[at_]? with|some x=>x==c|none=>false
end Go.Va
namespace Go.Proofs.YtakljipkaoahnaaGreatDoor
open Go.RowKit Go.Own Go.Own.MapTy Go.Va
open Go.Own.Cells (sz enc)
set_option maxHeartbeats 4000000 in
theorem label_any (s:ByteArray)(w:World)(hs:s.size≤4294967280):Calls Tryz.prog 83 #[.string s] w fun e w'=>e= .returned (.bool (labL s.data.toList))∧w'=w:=by
 go_enter Tryz.func83,Tryz.ntmps83
 go_wp2_with fail
 go_loopw [7] (fun v7 wr=>∃k:Nat,v7= .int .i64 k∧k≤s.size∧wr=w∧labFrom k (s.data.toList.drop k)=labFrom 0 s.data.toList) (fun v7 _=>s.size - (intOf v7).toNat)
 case atStart=>exact⟨0,rfl,Nat.zero_le _,rfl,rfl⟩
 case round=>
  obtain⟨k,rfl,hk,rfl,hf⟩:=hrel
  by_cases hkn:k<s.size
  ·rw[labFrom_drop hkn]at hf
   have HF:=zhd hf
   clear hf
   have hw:wrap64 ((k:Int)+1)=(k:Int)+1:=by unfold wrap64;omega
   rcases hlc:labC k s[k]with _|_
   ·have HL:labL s.data.toList=false:=by
     unfold labL
     rw[←HF.out,hlc]
     rfl
    unfold labC at hlc
    go_wp2_with fail
    all_goals first
     |(exfalso;simp only[decide_eq_false_iff_not]at*;omega)
     |(go_ret;exact⟨rfl,rfl⟩)
   ·have HL:labFrom (k+1) (s.data.toList.drop (k+1))=labFrom 0 s.data.toList:=by
     rw[←HF.out,hlc]
     rfl
    have HL:=zhd HL
    unfold labC at hlc
    go_wp2_with fail
    all_goals first
     |(exfalso;simp only[decide_eq_true_eq]at*;omega)
     |exact⟨⟨k+1,by simp,hkn,trivial,HL.out⟩,by simp[intOf];omega⟩
  ·obtain rfl:k=s.size:=by omega
   have HF:=zhd hf
   clear hf
   have hlen:s.data.toList.length=s.size:=by simp
   have HL:labL s.data.toList=(decide (1≤s.size)&&decide (s.size≤16)):=by
    unfold labL
    rw[←HF.out,List.drop_eq_nil_of_le (by omega),hlen]
    rfl
   by_cases h1:1≤s.size
   ·by_cases h2:s.size≤16
    ·have e1:(1:Int)≤s.size:=by omega
     have e2:(s.size:Int)≤16:=by omega
     go_wp2_with fail
     go_ret
     exact⟨by simp[HL,h1,h2],rfl⟩
    ·have e1:(1:Int)≤s.size:=by omega
     have e2:¬(s.size:Int)≤16:=by omega
     go_wp2_with fail
     go_ret
     exact⟨by simp,rfl⟩
   ·have e1:¬(1:Int)≤s.size:=by omega
    go_wp2_with fail
    go_ret
    exact⟨by simp,rfl⟩
theorem sign_any (b:Bool)(w:World):Calls Tryz.prog 92 #[.bool b] w fun e w'=>e= .returned (.int .i64 (bif b then -1 else 1))∧w'=w:=by
 go_enter Tryz.func92,Tryz.ntmps92
 cases b
 all_goals
  go_wp2_with fail
  go_ret
  exact⟨rfl,rfl⟩
theorem digit_any (c:UInt8)(w:World):Calls Tryz.prog 155 #[.int .u8 c.toNat] w fun e w'=>e= .returned (.int .i64 (digL c))∧w'=w:=by
 have IB:=zhd (show Calls Tryz.prog 132 #[.string ⟨#[48,49,50,51,52,53,54,55,56,57,97,98,99,100,101,102]⟩,.int .u8 c.toNat] w fun e w'=>e= .returned (.int .i64 (digL c))∧w'=w from by
  have h:=Any.strings_IndexByte Tryz.lays137 ⟨#[48,49,50,51,52,53,54,55,56,57,97,98,99,100,101,102]⟩ (c.toNat:Int) w
  have e:((c.toNat:Int).toNat).toUInt8=c:=by simp
  rw[e]at h
  exact h)
 go_enter Tryz.func155,Tryz.ntmps155
 go_wp2_with fail
 refine IB.out.mono ?_
 rintro e w1 ⟨rfl,rfl⟩
 go_wp2_with fail
 go_ret
 exact⟨rfl,rfl⟩
def TX (w:World)(b:Nat)(s:ByteArray)(at_:Nat)(deep:Bool):Prop:=w.heap[b]? =some (.cells #[.string s,.int .i64 at_,.bool deep] 164)
set_option maxHeartbeats 4000000 in
theorem eat_no (b:Nat)(s:ByteArray)(at_:Nat)(deep:Bool)(c:UInt8)(w:World)(H:TX w b s at_ deep)(hn:eatL s.data.toList at_ c=false):
  Calls Tryz.prog 123 #[.pointer (some ⟨b,0,none⟩),.int .u8 c.toNat] w fun e w'=>e= .returned (.bool false)∧w'=w.drew:=by
 have b0:b<w.heap.size:=zlt H
 have c0:=zca H 0 rfl
 have c1:=zca H 1 rfl
 clear H
 go_enter Tryz.func123,Tryz.ntmps123
 by_cases h:at_<s.size
 ·have e0:(at_:Int)<s.size:=by omega
  have hg:s.data.toList[at_]? =some s[at_]:=by simp[h];rfl
  rw[eatL,hg]at hn
  have hc:(s[at_]==c)=false:=hn
  have h1:((s[at_].toNat:Int)==(c.toNat:Int))=false:=by
   rw[beq_eq_false_iff_ne]at hc⊢
   exact fun e=>hc (UInt8.toNat_inj.1 (by omega))
  go_wp2_with fail
  go_region
  go_wp2_with fail
  go_ret
  exact⟨rfl,rfl⟩
 ·have e0:¬(at_:Int)<s.size:=by omega
  go_wp2_with fail
  go_region
  go_wp2_with fail
  go_ret
  exact⟨rfl,rfl⟩
set_option maxHeartbeats 4000000 in
theorem eat_yes (b:Nat)(s:ByteArray)(at_:Nat)(deep:Bool)(c:UInt8)(w:World)(H:TX w b s at_ deep)(hs:s.size≤4294967280)(h:at_<s.size)(hn:eatL s.data.toList at_ c=true):
  Calls Tryz.prog 123 #[.pointer (some ⟨b,0,none⟩),.int .u8 c.toNat] w fun e w'=>e= .returned (.bool true)∧w'=(w.setCell ⟨b,1,none⟩ (.int .i64 (at_+1))).drew:=by
 have b0:b<w.heap.size:=zlt H
 have c0:=zca H 0 rfl
 have c1:=zca H 1 rfl
 have f0:∀o,w.frozen? ⟨b,o,none⟩=false:=fun o=>zfr H o
 clear H
 go_enter Tryz.func123,Tryz.ntmps123
 have e0:(at_:Int)<s.size:=by omega
 have hg:s.data.toList[at_]? =some s[at_]:=by simp[h];rfl
 rw[eatL,hg]at hn
 have hc:(s[at_]==c)=true:=hn
 have h1:((s[at_].toNat:Int)==(c.toNat:Int))=true:=by
  rw[beq_iff_eq]at hc⊢
  rw[hc]
 have hw:wrap64 ((at_:Int)+1)=(at_:Int)+1:=by unfold wrap64;omega
 go_wp2_with fail
 go_region
 go_wp2_with fail
 go_ret
 exact⟨rfl,rfl⟩
theorem TX.move {w:World}{b:Nat}{s:ByteArray}{at_:Nat}{deep:Bool}(H:TX w b s at_ deep)(k:Nat):TX (w.setCell ⟨b,1,none⟩ (.int .i64 k)) b s k deep:=by
 unfold TX at H⊢
 simp[World.setCell,Array.getElem?_modify,H]
theorem TX.c0 {w:World}{b:Nat}{s:ByteArray}{at_:Nat}{deep:Bool}(H:TX w b s at_ deep):w.cell? ⟨b,0,none⟩=some (.string s):=by rw[zch H];rfl
theorem TX.c1 {w:World}{b:Nat}{s:ByteArray}{at_:Nat}{deep:Bool}(H:TX w b s at_ deep):w.cell? ⟨b,1,none⟩=some (.int .i64 at_):=by rw[zch H];rfl
theorem TX.c2 {w:World}{b:Nat}{s:ByteArray}{at_:Nat}{deep:Bool}(H:TX w b s at_ deep):w.cell? ⟨b,2,none⟩=some (.bool deep):=by rw[zch H];rfl
theorem TX.fr {w:World}{b:Nat}{s:ByteArray}{at_:Nat}{deep:Bool}(H:TX w b s at_ deep)(o:Nat):w.frozen? ⟨b,o,none⟩=false:=zfr H o
theorem TX.lt {w:World}{b:Nat}{s:ByteArray}{at_:Nat}{deep:Bool}(H:TX w b s at_ deep):b<w.heap.size:=zlt H
theorem TX.drew {w:World}{b:Nat}{s:ByteArray}{at_:Nat}{deep:Bool}(H:TX w b s at_ deep):TX w.drew b s at_ deep:=H
theorem TX.keep {w w':World}{b:Nat}{s:ByteArray}{at_:Nat}{deep:Bool}{S:Nat→Prop}(H:TX w b s at_ deep)(K:Keeps S w w')(hs:¬S b):TX w' b s at_ deep:=(K.block b (zlt H) hs).trans H
end Go.Proofs.YtakljipkaoahnaaGreatDoor
