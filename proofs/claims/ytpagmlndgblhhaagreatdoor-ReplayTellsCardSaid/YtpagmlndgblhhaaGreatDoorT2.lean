/- Parts of the proof: what the functions and the plain laws give that later parts lean on. Conditions: none beyond those that each theorem names. -/
import Derived.Shelf.LaysM
import Derived.Shelf.LaysC
import Derived.Shelf.Small.Strs
import Derived.Shelf.Small.Wraps
import Derived.Shelf.Strings.Prefix
import Derived.Shelf.Strings.Cut
import Derived.Shelf.Strings.Split
import Derived.Shelf.Strings.OnBuilder
import Derived.Shelf.Strconv.Itoa3
import Derived.Shelf.Strconv.Itoa4
import Derived.Shelf.Strconv.AtoiAll
import Derived.Shelf.Strconv.ParseIntPublic10
import Derived.Test.YtpagmlndgblhhaaGreatDoorProg
import Derived.Lib.IndexLaws
import Derived.Laws.IdiomStrings
import Derived.Lib.LaidTab
import Derived.Lib.ParseIntB
import Derived.Lib.ItoaNum
import Derived.Shelf.Strconv.ErrVarAll
import Derived.Lib.SmallJoins
import Derived.Test.YtpagmlndgblhhaaGreatDoorT1
set_option maxRecDepth 100000
set_option maxHeartbeats 8000000
namespace Go.Proofs
open Go.Shelf
def Tryz.lays106_ren:Go.Shelf.Ren:=⟨fun|106=>111|213=>140|265=>165|n=>n,fun|9=>9|3=>3|n=>n,fun|n=>n⟩
theorem Tryz.lays106:Go.Proofs.Lays.n106 Tryz.prog Tryz.lays106_ren:={
 mixed:=by kernel_rfl
 f106:=Tryz.func111.trans (congrArg some (by kernel_rfl))
 f213:=Tryz.func140.trans (congrArg some (by kernel_rfl))
 f265:=Tryz.func165.trans (congrArg some (by kernel_rfl))
 t3:=Tryz.underlying3
 a3:=Tryz.isAgg3
 z3:=Tryz.sizeOf3
 v3:=Tryz.zeroValue3
 t9:=Tryz.underlying9
 a9:=Tryz.isAgg9
 z9:=Tryz.sizeOf9
 v9:=Tryz.zeroValue9}
def Tryz.lays137_ren:Go.Shelf.Ren:=⟨fun|137=>98|217=>137|266=>155|n=>n,fun|9=>9|5=>5|3=>3|n=>n,fun|n=>n⟩
theorem Tryz.lays137:Go.Proofs.Lays.n137 Tryz.prog Tryz.lays137_ren:={
 mixed:=by kernel_rfl
 f137:=Tryz.func98.trans (congrArg some (by kernel_rfl))
 f217:=Tryz.func137.trans (congrArg some (by kernel_rfl))
 f266:=Tryz.func155.trans (congrArg some (by kernel_rfl))
 t3:=Tryz.underlying3
 a3:=Tryz.isAgg3
 z3:=Tryz.sizeOf3
 v3:=Tryz.zeroValue3
 t5:=Tryz.underlying5
 a5:=Tryz.isAgg5
 z5:=Tryz.sizeOf5
 v5:=Tryz.zeroValue5
 t9:=Tryz.underlying9
 a9:=Tryz.isAgg9
 z9:=Tryz.sizeOf9
 v9:=Tryz.zeroValue9}
def Tryz.lays103_ren:Go.Shelf.Ren:=⟨fun|103=>89|210=>125|206=>150|n=>n,fun|9=>9|4=>4|24=>98|3=>3|n=>n,fun|n=>n⟩
theorem Tryz.lays103:Go.Proofs.Lays.n103 Tryz.prog Tryz.lays103_ren:={
 mixed:=by kernel_rfl
 f103:=Tryz.func89.trans (congrArg some (by kernel_rfl))
 f206:=Tryz.func150.trans (congrArg some (by kernel_rfl))
 f210:=Tryz.func125.trans (congrArg some (by kernel_rfl))
 t3:=Tryz.underlying3
 a3:=Tryz.isAgg3
 z3:=Tryz.sizeOf3
 v3:=Tryz.zeroValue3
 t4:=Tryz.underlying4
 a4:=Tryz.isAgg4
 z4:=Tryz.sizeOf4
 v4:=Tryz.zeroValue4
 t9:=Tryz.underlying9
 a9:=Tryz.isAgg9
 z9:=Tryz.sizeOf9
 v9:=Tryz.zeroValue9
 t24:=Tryz.underlying98
 a24:=Tryz.isAgg98
 z24:=Tryz.sizeOf98
 v24:=Tryz.zeroValue98}
def Tryz.lays104_ren:Go.Shelf.Ren:=⟨fun|104=>45|211=>86|207=>121|n=>n,fun|9=>9|4=>4|24=>98|3=>3|n=>n,fun|n=>n⟩
theorem Tryz.lays104:Go.Proofs.Lays.n104 Tryz.prog Tryz.lays104_ren:={
 mixed:=by kernel_rfl
 f104:=Tryz.func45.trans (congrArg some (by kernel_rfl))
 f207:=Tryz.func121.trans (congrArg some (by kernel_rfl))
 f211:=Tryz.func86.trans (congrArg some (by kernel_rfl))
 t3:=Tryz.underlying3
 a3:=Tryz.isAgg3
 z3:=Tryz.sizeOf3
 v3:=Tryz.zeroValue3
 t4:=Tryz.underlying4
 a4:=Tryz.isAgg4
 z4:=Tryz.sizeOf4
 v4:=Tryz.zeroValue4
 t9:=Tryz.underlying9
 a9:=Tryz.isAgg9
 z9:=Tryz.sizeOf9
 v9:=Tryz.zeroValue9
 t24:=Tryz.underlying98
 a24:=Tryz.isAgg98
 z24:=Tryz.sizeOf98
 v24:=Tryz.zeroValue98}
def Tryz.lays99_ren:Go.Shelf.Ren:=⟨fun|99=>170|206=>150|n=>n,fun|9=>9|4=>4|3=>3|n=>n,fun|n=>n⟩
theorem Tryz.lays99:Go.Proofs.Lays.n99 Tryz.prog Tryz.lays99_ren:={
 mixed:=by kernel_rfl
 f99:=Tryz.func170.trans (congrArg some (by kernel_rfl))
 f206:=Tryz.func150.trans (congrArg some (by kernel_rfl))
 t3:=Tryz.underlying3
 a3:=Tryz.isAgg3
 z3:=Tryz.sizeOf3
 v3:=Tryz.zeroValue3
 t4:=Tryz.underlying4
 a4:=Tryz.isAgg4
 z4:=Tryz.sizeOf4
 v4:=Tryz.zeroValue4
 t9:=Tryz.underlying9
 a9:=Tryz.isAgg9
 z9:=Tryz.sizeOf9
 v9:=Tryz.zeroValue9}
def Tryz.lays145_ren:Go.Shelf.Ren:=⟨fun|145=>90|220=>126|219=>149|217=>137|225=>167|224=>168|267=>169|266=>155|314=>183|n=>n,fun|9=>9|4=>4|59=>165|3=>3|5=>5|46=>219|146=>273|51=>229|n=>n,fun|1=>0|n=>n⟩
theorem Tryz.lays145:Go.Proofs.Lays.n145 Tryz.prog Tryz.lays145_ren:={
 mixed:=by kernel_rfl
 f145:=Tryz.func90.trans (congrArg some (by kernel_rfl))
 f217:=Tryz.func137.trans (congrArg some (by kernel_rfl))
 f219:=Tryz.func149.trans (congrArg some (by kernel_rfl))
 f220:=Tryz.func126.trans (congrArg some (by kernel_rfl))
 f224:=Tryz.func168.trans (congrArg some (by kernel_rfl))
 f225:=Tryz.func167.trans (congrArg some (by kernel_rfl))
 f266:=Tryz.func155.trans (congrArg some (by kernel_rfl))
 f267:=Tryz.func169.trans (congrArg some (by kernel_rfl))
 f314:=Tryz.func183.trans (congrArg some (by kernel_rfl))
 t3:=Tryz.underlying3
 a3:=Tryz.isAgg3
 z3:=Tryz.sizeOf3
 v3:=Tryz.zeroValue3
 t4:=Tryz.underlying4
 a4:=Tryz.isAgg4
 z4:=Tryz.sizeOf4
 v4:=Tryz.zeroValue4
 t5:=Tryz.underlying5
 a5:=Tryz.isAgg5
 z5:=Tryz.sizeOf5
 v5:=Tryz.zeroValue5
 t9:=Tryz.underlying9
 a9:=Tryz.isAgg9
 z9:=Tryz.sizeOf9
 v9:=Tryz.zeroValue9
 t46:=Tryz.underlying219
 a46:=Tryz.isAgg219
 z46:=Tryz.sizeOf219
 v46:=Tryz.zeroValue219
 t51:=Tryz.underlying229
 a51:=Tryz.isAgg229
 z51:=Tryz.sizeOf229
 v51:=Tryz.zeroValue229
 t59:=Tryz.underlying165
 a59:=Tryz.isAgg165
 z59:=Tryz.sizeOf165
 v59:=Tryz.zeroValue165
 t146:=Tryz.underlying273
 a146:=Tryz.isAgg273
 z146:=Tryz.sizeOf273
 v146:=Tryz.zeroValue273
 g1:=by kernel_rfl}
def Tryz.lays146_ren:Go.Shelf.Ren:=⟨fun|146=>46|221=>87|268=>122|138=>123|143=>124|195=>146|197=>147|218=>148|219=>149|260=>166|217=>137|225=>167|224=>168|267=>169|266=>155|314=>183|n=>n,fun|9=>9|31=>26|3=>3|4=>4|0=>0|105=>243|21=>21|5=>5|46=>219|119=>269|139=>272|138=>271|146=>273|51=>229|n=>n,fun|1=>0|3=>1|4=>2|n=>n⟩
theorem Tryz.lays146:Go.Proofs.Lays.n146 Tryz.prog Tryz.lays146_ren:={
 mixed:=by kernel_rfl
 f138:=Tryz.func123.trans (congrArg some (by kernel_rfl))
 f143:=Tryz.func124.trans (congrArg some (by kernel_rfl))
 f146:=Tryz.func46.trans (congrArg some (by kernel_rfl))
 f195:=Tryz.func146.trans (congrArg some (by kernel_rfl))
 f197:=Tryz.func147.trans (congrArg some (by kernel_rfl))
 f217:=Tryz.func137.trans (congrArg some (by kernel_rfl))
 f218:=Tryz.func148.trans (congrArg some (by kernel_rfl))
 f219:=Tryz.func149.trans (congrArg some (by kernel_rfl))
 f221:=Tryz.func87.trans (congrArg some (by kernel_rfl))
 f224:=Tryz.func168.trans (congrArg some (by kernel_rfl))
 f225:=Tryz.func167.trans (congrArg some (by kernel_rfl))
 f260:=Tryz.func166.trans (congrArg some (by kernel_rfl))
 f266:=Tryz.func155.trans (congrArg some (by kernel_rfl))
 f267:=Tryz.func169.trans (congrArg some (by kernel_rfl))
 f268:=Tryz.func122.trans (congrArg some (by kernel_rfl))
 f314:=Tryz.func183.trans (congrArg some (by kernel_rfl))
 t0:=Tryz.underlying0
 a0:=Tryz.isAgg0
 z0:=Tryz.sizeOf0
 v0:=Tryz.zeroValue0
 t3:=Tryz.underlying3
 a3:=Tryz.isAgg3
 z3:=Tryz.sizeOf3
 v3:=Tryz.zeroValue3
 t4:=Tryz.underlying4
 a4:=Tryz.isAgg4
 z4:=Tryz.sizeOf4
 v4:=Tryz.zeroValue4
 t5:=Tryz.underlying5
 a5:=Tryz.isAgg5
 z5:=Tryz.sizeOf5
 v5:=Tryz.zeroValue5
 t9:=Tryz.underlying9
 a9:=Tryz.isAgg9
 z9:=Tryz.sizeOf9
 v9:=Tryz.zeroValue9
 t21:=Tryz.underlying21
 a21:=Tryz.isAgg21
 z21:=Tryz.sizeOf21
 v21:=Tryz.zeroValue21
 t31:=Tryz.underlying26
 a31:=Tryz.isAgg26
 z31:=Tryz.sizeOf26
 v31:=Tryz.zeroValue26
 t46:=Tryz.underlying219
 a46:=Tryz.isAgg219
 z46:=Tryz.sizeOf219
 v46:=Tryz.zeroValue219
 t51:=Tryz.underlying229
 a51:=Tryz.isAgg229
 z51:=Tryz.sizeOf229
 v51:=Tryz.zeroValue229
 t105:=Tryz.underlying243
 a105:=Tryz.isAgg243
 z105:=Tryz.sizeOf243
 v105:=Tryz.zeroValue243
 t119:=Tryz.underlying269
 a119:=Tryz.isAgg269
 z119:=Tryz.sizeOf269
 t138:=Tryz.underlying271
 a138:=Tryz.isAgg271
 z138:=Tryz.sizeOf271
 v138:=Tryz.zeroValue271
 t139:=Tryz.underlying272
 a139:=Tryz.isAgg272
 z139:=Tryz.sizeOf272
 v139:=Tryz.zeroValue272
 t146:=Tryz.underlying273
 a146:=Tryz.isAgg273
 z146:=Tryz.sizeOf273
 v146:=Tryz.zeroValue273
 g1:=by kernel_rfl
 g3:=by kernel_rfl
 g4:=by kernel_rfl}
def Tryz.laysM173_ren:Go.Shelf.Ren:=⟨fun|173=>186|246=>192|283=>196|284=>197|285=>198|286=>199|129=>203|317=>202|318=>204|319=>205|320=>206|337=>207|338=>208|n=>n,fun|2=>2|3=>3|9=>9|4=>4|171=>288|0=>0|53=>188|37=>55|5=>5|173=>291|212=>298|51=>229|20=>20|213=>299|46=>219|232=>238|233=>302|n=>n,fun|17=>5|18=>6|19=>7|n=>n⟩
theorem Tryz.laysM173:Go.Proofs.LaysM.n173 Tryz.prog Tryz.laysM173_ren:={
 mixed:=by kernel_rfl
 f129:=Tryz.func203.trans (congrArg some (by kernel_rfl))
 f173:=Tryz.func186.trans (congrArg some (by kernel_rfl))
 f246:=Tryz.func192.trans (congrArg some (by kernel_rfl))
 f283:=Tryz.func196.trans (congrArg some (by kernel_rfl))
 f284:=Tryz.func197.trans (congrArg some (by kernel_rfl))
 f285:=Tryz.func198.trans (congrArg some (by kernel_rfl))
 f286:=Tryz.func199.trans (congrArg some (by kernel_rfl))
 f317:=Tryz.func202.trans (congrArg some (by kernel_rfl))
 f318:=Tryz.func204.trans (congrArg some (by kernel_rfl))
 f319:=Tryz.func205.trans (congrArg some (by kernel_rfl))
 f320:=Tryz.func206.trans (congrArg some (by kernel_rfl))
 f337:=Tryz.func207.trans (congrArg some (by kernel_rfl))
 f338:=Tryz.func208.trans (congrArg some (by kernel_rfl))
 t0:=Tryz.underlying0
 a0:=Tryz.isAgg0
 z0:=Tryz.sizeOf0
 v0:=Tryz.zeroValue0
 t2:=Tryz.underlying2
 a2:=Tryz.isAgg2
 z2:=Tryz.sizeOf2
 v2:=Tryz.zeroValue2
 t3:=Tryz.underlying3
 a3:=Tryz.isAgg3
 z3:=Tryz.sizeOf3
 v3:=Tryz.zeroValue3
 t4:=Tryz.underlying4
 a4:=Tryz.isAgg4
 z4:=Tryz.sizeOf4
 v4:=Tryz.zeroValue4
 t5:=Tryz.underlying5
 a5:=Tryz.isAgg5
 z5:=Tryz.sizeOf5
 v5:=Tryz.zeroValue5
 t9:=Tryz.underlying9
 a9:=Tryz.isAgg9
 z9:=Tryz.sizeOf9
 v9:=Tryz.zeroValue9
 t20:=Tryz.underlying20
 a20:=Tryz.isAgg20
 z20:=Tryz.sizeOf20
 v20:=Tryz.zeroValue20
 t37:=Tryz.underlying55
 a37:=Tryz.isAgg55
 z37:=Tryz.sizeOf55
 v37:=Tryz.zeroValue55
 t46:=Tryz.underlying219
 a46:=Tryz.isAgg219
 z46:=Tryz.sizeOf219
 v46:=Tryz.zeroValue219
 t51:=Tryz.underlying229
 a51:=Tryz.isAgg229
 z51:=Tryz.sizeOf229
 v51:=Tryz.zeroValue229
 t53:=Tryz.underlying188
 a53:=Tryz.isAgg188
 z53:=Tryz.sizeOf188
 v53:=Tryz.zeroValue188
 t171:=Tryz.underlying288
 a171:=Tryz.isAgg288
 z171:=Tryz.sizeOf288
 v171:=Tryz.zeroValue288
 t173:=Tryz.underlying291
 a173:=Tryz.isAgg291
 z173:=Tryz.sizeOf291
 v173:=Tryz.zeroValue291
 t212:=Tryz.underlying298
 a212:=Tryz.isAgg298
 z212:=Tryz.sizeOf298
 v212:=Tryz.zeroValue298
 t213:=Tryz.underlying299
 a213:=Tryz.isAgg299
 z213:=Tryz.sizeOf299
 t232:=Tryz.underlying238
 a232:=Tryz.isAgg238
 z232:=Tryz.sizeOf238
 v232:=Tryz.zeroValue238
 t233:=Tryz.underlying302
 a233:=Tryz.isAgg302
 z233:=Tryz.sizeOf302
 v233:=Tryz.zeroValue302
 g17:=by kernel_rfl
 g18:=by kernel_rfl
 g19:=by kernel_rfl
 i0:=by kernel_rfl
 i2:=by kernel_rfl
 i3:=by kernel_rfl
 i4:=by kernel_rfl
 i5:=by kernel_rfl
 i9:=by kernel_rfl
 i20:=by kernel_rfl
 i37:=by kernel_rfl
 i46:=by kernel_rfl
 i51:=by kernel_rfl
 i53:=by kernel_rfl
 i171:=by kernel_rfl
 i173:=by kernel_rfl
 i212:=by kernel_rfl
 i232:=by kernel_rfl
 i233:=by kernel_rfl
 m17:=by kernel_rfl
 m18:=by kernel_rfl
 m19:=by kernel_rfl}
def Tryz.laysC174_ren:Go.Shelf.Ren:=⟨fun|174=>185|247=>187|245=>175|287=>193|279=>188|280=>189|281=>190|282=>191|321=>200|322=>201|316=>194|171=>153|205=>195|243=>176|246=>192|283=>196|284=>197|285=>198|286=>199|129=>203|317=>202|318=>204|319=>205|320=>206|337=>207|338=>208|n=>n,fun|9=>9|3=>3|2=>2|75=>250|85=>276|4=>4|167=>279|5=>5|53=>188|175=>283|46=>219|168=>280|37=>55|0=>0|210=>286|21=>21|127=>294|145=>297|143=>295|171=>288|173=>291|212=>298|51=>229|20=>20|213=>299|232=>238|233=>302|80=>224|n=>n,fun|15=>3|16=>4|17=>5|18=>6|19=>7|n=>n⟩
theorem Tryz.laysC174:Go.Proofs.LaysC.n174 Tryz.prog Tryz.laysC174_ren:={
 mixed:=by kernel_rfl
 f129:=Tryz.func203.trans (congrArg some (by kernel_rfl))
 f171:=Tryz.func153.trans (congrArg some (by kernel_rfl))
 f174:=Tryz.func185.trans (congrArg some (by kernel_rfl))
 f205:=Tryz.func195.trans (congrArg some (by kernel_rfl))
 f243:=Tryz.func176.trans (congrArg some (by kernel_rfl))
 f245:=Tryz.func175.trans (congrArg some (by kernel_rfl))
 f246:=Tryz.func192.trans (congrArg some (by kernel_rfl))
 f247:=Tryz.func187.trans (congrArg some (by kernel_rfl))
 f279:=Tryz.func188.trans (congrArg some (by kernel_rfl))
 f280:=Tryz.func189.trans (congrArg some (by kernel_rfl))
 f281:=Tryz.func190.trans (congrArg some (by kernel_rfl))
 f282:=Tryz.func191.trans (congrArg some (by kernel_rfl))
 f283:=Tryz.func196.trans (congrArg some (by kernel_rfl))
 f284:=Tryz.func197.trans (congrArg some (by kernel_rfl))
 f285:=Tryz.func198.trans (congrArg some (by kernel_rfl))
 f286:=Tryz.func199.trans (congrArg some (by kernel_rfl))
 f287:=Tryz.func193.trans (congrArg some (by kernel_rfl))
 f316:=Tryz.func194.trans (congrArg some (by kernel_rfl))
 f317:=Tryz.func202.trans (congrArg some (by kernel_rfl))
 f318:=Tryz.func204.trans (congrArg some (by kernel_rfl))
 f319:=Tryz.func205.trans (congrArg some (by kernel_rfl))
 f320:=Tryz.func206.trans (congrArg some (by kernel_rfl))
 f321:=Tryz.func200.trans (congrArg some (by kernel_rfl))
 f322:=Tryz.func201.trans (congrArg some (by kernel_rfl))
 f337:=Tryz.func207.trans (congrArg some (by kernel_rfl))
 f338:=Tryz.func208.trans (congrArg some (by kernel_rfl))
 t0:=Tryz.underlying0
 a0:=Tryz.isAgg0
 z0:=Tryz.sizeOf0
 v0:=Tryz.zeroValue0
 t2:=Tryz.underlying2
 a2:=Tryz.isAgg2
 z2:=Tryz.sizeOf2
 v2:=Tryz.zeroValue2
 t3:=Tryz.underlying3
 a3:=Tryz.isAgg3
 z3:=Tryz.sizeOf3
 v3:=Tryz.zeroValue3
 t4:=Tryz.underlying4
 a4:=Tryz.isAgg4
 z4:=Tryz.sizeOf4
 v4:=Tryz.zeroValue4
 t5:=Tryz.underlying5
 a5:=Tryz.isAgg5
 z5:=Tryz.sizeOf5
 v5:=Tryz.zeroValue5
 t9:=Tryz.underlying9
 a9:=Tryz.isAgg9
 z9:=Tryz.sizeOf9
 v9:=Tryz.zeroValue9
 t20:=Tryz.underlying20
 a20:=Tryz.isAgg20
 z20:=Tryz.sizeOf20
 v20:=Tryz.zeroValue20
 t21:=Tryz.underlying21
 a21:=Tryz.isAgg21
 z21:=Tryz.sizeOf21
 v21:=Tryz.zeroValue21
 t37:=Tryz.underlying55
 a37:=Tryz.isAgg55
 z37:=Tryz.sizeOf55
 v37:=Tryz.zeroValue55
 t46:=Tryz.underlying219
 a46:=Tryz.isAgg219
 z46:=Tryz.sizeOf219
 v46:=Tryz.zeroValue219
 t51:=Tryz.underlying229
 a51:=Tryz.isAgg229
 z51:=Tryz.sizeOf229
 v51:=Tryz.zeroValue229
 t53:=Tryz.underlying188
 a53:=Tryz.isAgg188
 z53:=Tryz.sizeOf188
 v53:=Tryz.zeroValue188
 t75:=Tryz.underlying250
 a75:=Tryz.isAgg250
 z75:=Tryz.sizeOf250
 v75:=Tryz.zeroValue250
 t85:=Tryz.underlying276
 a85:=Tryz.isAgg276
 z85:=Tryz.sizeOf276
 v85:=Tryz.zeroValue276
 t127:=Tryz.underlying294
 a127:=Tryz.isAgg294
 z127:=Tryz.sizeOf294
 v127:=Tryz.zeroValue294
 t143:=Tryz.underlying295
 a143:=Tryz.isAgg295
 z143:=Tryz.sizeOf295
 v143:=Tryz.zeroValue295
 t145:=Tryz.underlying297
 a145:=Tryz.isAgg297
 z145:=Tryz.sizeOf297
 v145:=Tryz.zeroValue297
 t167:=Tryz.underlying279
 a167:=Tryz.isAgg279
 z167:=Tryz.sizeOf279
 v167:=Tryz.zeroValue279
 t168:=Tryz.underlying280
 a168:=Tryz.isAgg280
 z168:=Tryz.sizeOf280
 v168:=Tryz.zeroValue280
 t171:=Tryz.underlying288
 a171:=Tryz.isAgg288
 z171:=Tryz.sizeOf288
 v171:=Tryz.zeroValue288
 t173:=Tryz.underlying291
 a173:=Tryz.isAgg291
 z173:=Tryz.sizeOf291
 v173:=Tryz.zeroValue291
 t175:=Tryz.underlying283
 a175:=Tryz.isAgg283
 z175:=Tryz.sizeOf283
 v175:=Tryz.zeroValue283
 t210:=Tryz.underlying286
 a210:=Tryz.isAgg286
 z210:=Tryz.sizeOf286
 v210:=Tryz.zeroValue286
 t212:=Tryz.underlying298
 a212:=Tryz.isAgg298
 z212:=Tryz.sizeOf298
 v212:=Tryz.zeroValue298
 t213:=Tryz.underlying299
 a213:=Tryz.isAgg299
 z213:=Tryz.sizeOf299
 t232:=Tryz.underlying238
 a232:=Tryz.isAgg238
 z232:=Tryz.sizeOf238
 v232:=Tryz.zeroValue238
 t233:=Tryz.underlying302
 a233:=Tryz.isAgg302
 z233:=Tryz.sizeOf302
 v233:=Tryz.zeroValue302
 g15:=by kernel_rfl
 g16:=by kernel_rfl
 g17:=by kernel_rfl
 g18:=by kernel_rfl
 g19:=by kernel_rfl
 t80:=Tryz.underlying224
 a80:=Tryz.isAgg224
 z80:=Tryz.sizeOf224
 v80:=Tryz.zeroValue224
 i0:=by kernel_rfl
 i2:=by kernel_rfl
 i3:=by kernel_rfl
 i4:=by kernel_rfl
 i5:=by kernel_rfl
 i9:=by kernel_rfl
 i20:=by kernel_rfl
 i21:=by kernel_rfl
 i37:=by kernel_rfl
 i46:=by kernel_rfl
 i51:=by kernel_rfl
 i53:=by kernel_rfl
 i75:=by kernel_rfl
 i80:=by kernel_rfl
 i85:=by kernel_rfl
 i127:=by kernel_rfl
 i143:=by kernel_rfl
 i145:=by kernel_rfl
 i167:=by kernel_rfl
 i168:=by kernel_rfl
 i171:=by kernel_rfl
 i173:=by kernel_rfl
 i175:=by kernel_rfl
 i210:=by kernel_rfl
 i212:=by kernel_rfl
 i232:=by kernel_rfl
 i233:=by kernel_rfl
 m15:=by kernel_rfl
 m16:=by kernel_rfl
 m17:=by kernel_rfl
 m18:=by kernel_rfl
 m19:=by kernel_rfl
 c0:=by kernel_rfl
 c2:=by kernel_rfl
 c3:=by kernel_rfl
 c4:=by kernel_rfl
 c5:=by kernel_rfl
 c9:=by kernel_rfl
 c20:=by kernel_rfl
 c21:=by kernel_rfl
 c37:=by kernel_rfl
 c46:=by kernel_rfl
 c51:=by kernel_rfl
 c53:=by kernel_rfl
 c75:=by kernel_rfl
 c80:=by kernel_rfl
 c85:=by kernel_rfl
 c127:=by kernel_rfl
 c143:=by kernel_rfl
 c145:=by kernel_rfl
 c167:=by kernel_rfl
 c168:=by kernel_rfl
 c171:=by kernel_rfl
 c173:=by kernel_rfl
 c175:=by kernel_rfl
 c210:=by kernel_rfl
 c212:=by kernel_rfl
 c213:=by kernel_rfl
 c232:=by kernel_rfl
 c233:=by kernel_rfl}
end Go.Proofs
namespace Go.Va
def yp5 (i:Nat)(c:UInt8):Bool:=decide ((97<=c.toNat/\c.toNat<=122)\/(0<i/\48<=c.toNat/\c.toNat<=57))
def ykr:Nat->List UInt8->Bool
 |_,[]=>true
 |i,c::r=>yp5 i c&&ykr (i+1) r
def ypT (s:List UInt8):Bool:=ykr 0 s&&(1<=s.length&&s.length<=16)
def yo3 (c:UInt8):Int:=Lib.indexByte [48,49,50,51,52,53,54,55,56,57,97,98,99,100,101,102] c
def yex (s:List UInt8)(at_:Nat)(c:UInt8):Bool:=match s[at_]? with|some x=>x==c|none=>false
end Go.Va
namespace Go.Proofs.YtpagmlndgblhhaaGreatDoor
open Go.RowKit Go.Own Go.Own.MapTy Go.Va
open Go.Own.Cells (sz enc)
theorem yh4 (b:Bool)(w:World):Calls Tryz.prog 110 #[b] w fun e w'=>e= .returned (.int .i64 (bif b then -1 else 1))/\w'=w:=by
 go_in;cases b
 all_goals
  go_wp2;go_ret;exact⟨rfl,rfl⟩
def TX (w:World)(b:Nat)(s:ByteArray)(at_:Nat)(deep:Bool):Prop:=w.heap[b]? =some (.cells #[s,at_,deep] 246)
set_option maxHeartbeats 4000000 in
theorem yop (b:Nat)(s:ByteArray)(at_:Nat)(deep:Bool)(c:UInt8)(w:World)(H:TX w b s at_ deep)(hn:yex s.data.toList at_ c=false):
  Calls Tryz.prog 171 #[.pointer (some ⟨b,0,none⟩),.int .u8 c.toNat] w fun e w'=>e= .returned (.bool false)/\w'=w.drew:=by
 have E:b<w:=zlt H;have c0:=zca H 0 rfl;have c1:=zca H 1 rfl;clear H;go_in;by_cases h:at_<s.size
 .have C:(at_:Int)<s.size:=by omega
  have B:s.data.toList[at_]? =some s[at_]:=by simp[h];rfl
  rw[yex,B]at hn;have A:(s[at_]==c)=false:=hn;have D:((s[at_].toNat:Int)==(c.toNat:Int))=false:=by
   rw[zna]at A|-;exact fun e=>A (UInt8.toNat_inj.1 (by omega))
  go_wp2_with fail;go_region;go_wp2;go_ret;exact⟨rfl,rfl⟩
 .have C:¬(at_:Int)<s.size:=by omega
  go_wp2_with fail;go_region;go_wp2;go_ret;exact⟨rfl,rfl⟩
set_option maxHeartbeats 4000000 in
theorem ynu (b:Nat)(s:ByteArray)(at_:Nat)(deep:Bool)(c:UInt8)(w:World)(H:TX w b s at_ deep)(hs:s.size<=4294967280)(h:at_<s.size)(hn:yex s.data.toList at_ c=true):
  Calls Tryz.prog 171 #[.pointer (some ⟨b,0,none⟩),.int .u8 c.toNat] w fun e w'=>e= .returned (.bool true)/\w'=(w.setCell ⟨b,1,none⟩ (.int .i64 (at_+1))).drew:=by
 have G:b<w:=zlt H;have c0:=zca H 0 rfl;have c1:=zca H 1 rfl;have E:∀o,w.frozen? ⟨b,o,none⟩=false:=fun o=>zfr H o;clear H;go_in;have F:(at_:Int)<s.size:=by omega
 have B:s.data.toList[at_]? =some s[at_]:=by simp[h];rfl
 rw[yex,B]at hn;have A:(s[at_]==c)=true:=hn;have D:((s[at_].toNat:Int)==(c.toNat:Int))=true:=by
  rw[beq_iff_eq]at A|-;rw[A]
 have C:wrap64 ((at_:Int)+1)=(at_:Int)+1:=by unfold wrap64;omega
 go_wp2_with fail;go_region;go_wp2;go_ret;exact⟨rfl,rfl⟩
theorem TX.move {w:World}{b:Nat}{s:ByteArray}{at_:Nat}{deep:Bool}(H:TX w b s at_ deep)(k:Nat):TX (w.setCell ⟨b,1,none⟩ (.int .i64 k)) b s k deep:=by
 unfold TX at H|-;simp[World.setCell,zni,H]
theorem TX.c0 {w:World}{b:Nat}{s:ByteArray}{at_:Nat}{deep:Bool}(H:TX w b s at_ deep):w.cell? ⟨b,0,none⟩=some (.string s):=by rw[zch H];rfl
theorem TX.c1 {w:World}{b:Nat}{s:ByteArray}{at_:Nat}{deep:Bool}(H:TX w b s at_ deep):w.cell? ⟨b,1,none⟩=some (.int .i64 at_):=by rw[zch H];rfl
theorem TX.c2 {w:World}{b:Nat}{s:ByteArray}{at_:Nat}{deep:Bool}(H:TX w b s at_ deep):w.cell? ⟨b,2,none⟩=some (.bool deep):=by rw[zch H];rfl
theorem TX.fr {w:World}{b:Nat}{s:ByteArray}{at_:Nat}{deep:Bool}(H:TX w b s at_ deep)(o:Nat):w.frozen? ⟨b,o,none⟩=false:=zfr H o
theorem TX.lt {w:World}{b:Nat}{s:ByteArray}{at_:Nat}{deep:Bool}(H:TX w b s at_ deep):b<w:=zlt H
theorem TX.drew {w:World}{b:Nat}{s:ByteArray}{at_:Nat}{deep:Bool}(H:TX w b s at_ deep):TX w.drew b s at_ deep:=H
theorem TX.keep {w w':World}{b:Nat}{s:ByteArray}{at_:Nat}{deep:Bool}{S:Nat->Prop}(H:TX w b s at_ deep)(K:Keeps S w w')(hs:¬S b):TX w' b s at_ deep:=(K.block b (zlt H) hs).trans H
end Go.Proofs.YtpagmlndgblhhaaGreatDoor
namespace Go.Va
open Go.Own Go.RowKit
instance:Cells UInt8 where
 sz:=1
 enc:=fun c=>[.int .u8 c.toNat]
 len:=fun _=>rfl
 one:=by
  intro x v hv;simp at hv;subst hv;rfl
def ypj (a b:UInt8):Int:=(16*yo3 a+yo3 b)%256
def yoh (a b:UInt8):Bool:=decide (yo3 a<0\/yo3 b<0\/(32<=ypj a b/\ypj a b<=126))
def yj1 (acc:List UInt8)(k:Nat):List UInt8->Option (List UInt8×Nat)
 |[]=>none
 |c::r=>
  if c.toNat=34 then some (acc,k+1)else
  if c.toNat<32\/126<c.toNat then none else
  if c.toNat≠92 then yj1 (acc++[c]) (k+1) r else
  match r with
  |[]=>none
  |d::r1=>
   if d.toNat=34 then yj1 (acc++[34]) (k+2) r1 else
   if d.toNat=92 then yj1 (acc++[92]) (k+2) r1 else
   if d.toNat≠120 then none else
   match r1 with
   |a::b::r2=>if yoh a b then none else yj1 (acc++[UInt8.ofNat (ypj a b).toNat]) (k+4) r2
   |_=>none
end Go.Va
namespace Go.Va
open Go.Own Go.RowKit
open Cells (sz enc)
def RdF {α:Type}[Cells α](F:Nat->Prop)(w:World)(v:Value)(xs:List α):Prop:=
 ∃a cap,v= .slice a xs.length cap/\xs.length<=cap/\cap<=maxLen/\∀i x,xs[i]? =some x->∃g off,a=some ⟨g,off,none⟩/\F g/\g<w.heap.size/\∀j u,(enc x)[j]? =some u->w.cell? ⟨g,off+(i*sz α+j),none⟩=some u
section
variable{α:Type} [Cells α] {F G:Nat->Prop} {w w':World} {v:Value} {xs:List α}
theorem RdF.slice (h:RdF F w v xs):∃a cap,v= .slice a xs.length cap:=by obtain⟨a,cap,h,_⟩:=h;exact⟨a,cap,h⟩
theorem RdF.length_le (h:RdF F w v xs):xs.length<=maxLen:=by obtain⟨a,A,_,C,B,_⟩:=h;omega
theorem RdF.keep {S:Nat->Prop}(h:RdF F w v xs)(K:Keeps S w w')(hs:∀g,F g->¬S g):RdF F w' v xs:=by
 obtain⟨a,B,rfl,I,H,G⟩:=h;refine⟨a,B,rfl,I,H,fun i x hx=> ?_⟩;obtain⟨g,A,rfl,D,C,E⟩:=G i x hx;exact⟨g,A,rfl,D,znj C K.size,fun j u hu=>(K.cell (p:=⟨g,_,none⟩) C (hs g D)).trans (E j u hu)⟩
theorem RdF.mono (h:RdF F w v xs)(hs:∀g,F g->g<w.heap.size->G g):RdF G w v xs:=by
 obtain⟨a,B,rfl,J,I,H⟩:=h;refine⟨a,B,rfl,J,I,fun i x hx=> ?_⟩;obtain⟨g,A,rfl,E,C,D⟩:=H i x hx;exact⟨g,A,rfl,hs g E C,C,D⟩
theorem RdF.at_ {a:Option Addr}{n cap:Nat}(h:RdF F w (.slice a n cap) xs){i:Nat}{x:α}(hx:xs[i]? =some x):∃g off,a=some ⟨g,off,none⟩/\F g/\g<w.heap.size/\∀j u,(enc x)[j]? =some u->w.cell? ⟨g,off+(i*sz α+j),none⟩=some u:=by
 obtain⟨C,A,hv,_,_,B⟩:=h;cases hv;exact B i x hx
theorem RdF.of_row {e:TypeId}(h:RowAt w e v xs)(hF:∀g,v.ownBlock=some g->F g):RdF F w v xs:=by
 rcases h with⟨rfl,rfl⟩|⟨g,A,B,H,rfl,C,D,hm,I,G⟩
 .exact⟨none,0,rfl,znc _,znq _,fun i x hx=>by simp at hx⟩
 .refine⟨_,B,rfl,D,hm,fun i x hx=>⟨g,A,rfl,hF g rfl,zlt C,fun j u hu=> ?_⟩⟩
  have E:j<sz α:=by have:=(zge hu).1;rwa[Cells.len]at this
  rw[zch C];exact G _ u (by rw[ybe xs i j x hx E];exact hu)
theorem RdF.nil (F:Nat->Prop)(w:World):RdF (α:=α) F w (.slice none 0 0) []:=⟨none,0,rfl,znc _,znq _,fun i x hx=>by simp at hx⟩
end
inductive VF (F:Nat->Prop) (w:World):Value->List Val->Prop
 |mk (v:Value) (cs:List VC) (l:List Val) (hr:RdF F w v cs) (hl:cs.length=l.length) (h:∀(i:Nat) (c:VC) (x:Val),cs[i]? =some c->l[i]? =some x->c.kind=x.kind/\c.n=x.num/\c.s=x.txt)
   (hv:∀(i:Nat) (c:VC) (x:Val),cs[i]? =some c->l[i]? =some x->VF F w (.slice c.la c.ln c.lc) x.list):VF F w v l
theorem VF.keep {F S:Nat->Prop}{w w':World}(K:Keeps S w w')(hs:∀g,F g->¬S g){v:Value}{l:List Val}(h:VF F w v l):VF F w' v l:=by
 induction h with
 |mk v cs l hr hl h0 _ ih=>exact .mk v cs l (hr.keep K hs) hl h0 ih
theorem VF.mono {F G:Nat->Prop}{w:World}(hs:∀g,F g->g<w.heap.size->G g){v:Value}{l:List Val}(h:VF F w v l):VF G w v l:=by
 induction h with
 |mk v cs l hr hl h0 _ ih=>exact .mk v cs l (hr.mono hs) hl h0 ih
theorem VF.nil (F:Nat->Prop)(w:World):VF F w (.slice none 0 0) []:=.mk _ [] [] (RdF.nil F w) rfl (fun i c x h=>by simp at h) (fun i c x h=>by simp at h)
structure CF (F:Nat->Prop)(w:World)(c:VC)(x:Val):Prop where
 kind:c.kind=x.kind
 n:c.n=x.num
 s:c.s=x.txt
 l:VF F w (.slice c.la c.ln c.lc) x.list
theorem CF.keep {F S:Nat->Prop}{w w':World}{c:VC}{x:Val}(h:CF F w c x)(K:Keeps S w w')(hs:∀g,F g->¬S g):CF F w' c x:=⟨h.kind,h.n,h.s,h.l.keep K hs⟩
theorem CF.mono {F G:Nat->Prop}{w:World}{c:VC}{x:Val}(h:CF F w c x)(hs:∀g,F g->g<w.heap.size->G g):CF G w c x:=⟨h.kind,h.n,h.s,h.l.mono hs⟩
def VRow (F:Nat->Prop)(w:World)(e:TypeId)(v:Value)(l:List Val):Prop:=
 ∃cs:List VC,RowAt w e v cs/\cs.length=l.length/\∀(i:Nat) (c:VC) (x:Val),cs[i]? =some c->l[i]? =some x->CF F w c x
theorem VRow.vf {F G:Nat->Prop}{w:World}{e:TypeId}{v:Value}{l:List Val}(h:VRow F w e v l)(hF:∀g,F g->G g)(hG:∀g,v.ownBlock=some g->G g):VF G w v l:=by
 obtain⟨D,C,B,A⟩:=h;exact .mk v D l (RdF.of_row C hG) B (fun i c x hc hx=>⟨(A i c x hc hx).kind,(A i c x hc hx).n,(A i c x hc hx).s⟩) (fun i c x hc hx=>(A i c x hc hx).l.mono (fun g h _=>hF g h))
theorem VRow.slice {F:Nat->Prop}{w:World}{e:TypeId}{v:Value}{l:List Val}(h:VRow F w e v l):∃a cap,v= .slice a l.length cap:=by
 obtain⟨D,B,A,C⟩:=h;obtain⟨a,cap,h⟩:=B.slice;exact⟨a,cap,by rw[<-A];exact h⟩
theorem VRow.nil (F:Nat->Prop)(w:World)(e:TypeId):VRow F w e (.slice none 0 0) []:=⟨[],.inl ⟨rfl,rfl⟩,rfl,fun i c x h=>by simp at h⟩
theorem VRow.keep {F S:Nat->Prop}{w w':World}{e:TypeId}{v:Value}{l:List Val}(h:VRow F w e v l)(K:Keeps S w w')(hs:∀g,F g->¬S g)(hv:∀g,v.ownBlock=some g->¬S g):VRow F w' e v l:=by
 obtain⟨D,C,B,A⟩:=h;exact⟨D,C.keep K hv,B,fun i c x hc hx=>(A i c x hc hx).keep K hs⟩
theorem VRow.mono {F G:Nat->Prop}{w:World}{e:TypeId}{v:Value}{l:List Val}(h:VRow F w e v l)(hs:∀g,F g->g<w.heap.size->G g):VRow G w e v l:=by
 obtain⟨D,C,B,A⟩:=h;exact⟨D,C,B,fun i c x hc hx=>(A i c x hc hx).mono hs⟩
theorem VRow.app {F G:Nat->Prop}{w w1:World}{e:TypeId}{v v1:Value}{cs:List VC}{l:List Val}{c:VC}{x:Val}(h2:cs.length=l.length)(h3:∀(i:Nat) (c:VC) (x:Val),cs[i]? =some c->l[i]? =some x->CF F w c x)(hc:CF F w c x)
  (h1:RowAt w1 e v1 (cs++[c]))(K:Keeps (fun j=>v.ownBlock=some j) w w1)(hF:∀g,F g->¬v.ownBlock=some g)(hG:∀g,F g->g<w.heap.size->G g):VRow G w1 e v1 (l++[x]):=by
 refine⟨cs++[c],h1,by simp[h2],fun i c' x' hc' hx'=> ?_⟩;have hk:∀{c x},CF F w c x->CF G w1 c x:=fun hx=>(hx.mono (G:=fun g=>F g/\G g) (fun g h hl=>⟨h,hG g h hl⟩)).keep K (fun g h=>hF g h.1)|>.mono (fun g h _=>h.2);by_cases hi:i<cs.length
 .rw[List.getElem?_append_left hi]at hc'
  rw[List.getElem?_append_left (by omega)]at hx';exact hk (h3 i c' x' hc' hx')
 .rw[List.getElem?_append_right (by omega)]at hc' hx'
  rw[h2]at hc';cases hj:i - l.length with
  |zero=>
   rw[hj]at hc' hx';simp at hc' hx';subst hc' hx';exact hk hc
  |succ j=>rw[hj]at hc';simp at hc'
theorem VF.elem {F:Nat->Prop}{w:World}{a:Option Addr}{n cap:Nat}{l:List Val}(h:VF F w (.slice a n cap) l):n=l.length/\∀(i:Nat) (x:Val),l[i]? =some x->∃c g off,CF F w c x/\a=some ⟨g,off,none⟩/\F g/\g<w.heap.size/\
  w.cell? ⟨g,off+i*4,none⟩=some (.int .i64 c.kind)/\w.cell? ⟨g,off+i*4+1,none⟩=some (.int .i64 c.n)/\w.cell? ⟨g,off+i*4+2,none⟩=some (.string c.s)/\w.cell? ⟨g,off+i*4+3,none⟩=some (.slice c.la c.ln c.lc):=by
 cases h with
 |mk _ cs _ hr hl h hv4=>
  obtain⟨M,D,hv⟩:=hr.slice;cases hv;refine⟨hl,fun i x hx=> ?_⟩;have E:i<cs.length:=by rw[hl];exact(zge hx).1
  have C:cs[i]? =some cs[i]:=List.getElem?_eq_getElem E;obtain⟨L,K,J⟩:=h i _ x C hx;have I:=hv4 i _ x C hx;obtain⟨g,off,G,H,B,A⟩:=hr.at_ C;exact⟨cs[i],g,off,⟨L,K,J,I⟩,G,H,B,A 0 _ rfl,by rw[zmm];exact A 1 _ rfl,by rw[zmm];exact A 2 _ rfl,by rw[zmm];exact A 3 _ rfl⟩
theorem VF.elems {F:Nat->Prop}{w:World}{a:Option Addr}{n cap:Nat}{l:List Val}(h:VF F w (.slice a n cap) l):n=l.length/\n<=maxLen/\(l=[]\/∃g off,a=some ⟨g,off,none⟩/\F g/\g<w.heap.size/\∀(i:Nat) (x:Val),l[i]? =some x->∃c,CF F w c x/\
  w.cell? ⟨g,off+i*4,none⟩=some (.int .i64 c.kind)/\w.cell? ⟨g,off+i*4+1,none⟩=some (.int .i64 c.n)/\w.cell? ⟨g,off+i*4+2,none⟩=some (.string c.s)/\w.cell? ⟨g,off+i*4+3,none⟩=some (.slice c.la c.ln c.lc)):=by
 obtain⟨J,E⟩:=h.elem;refine⟨J,?_,?_⟩
 .cases h with
  |mk _ cs _ hr hl h hv4=>
   have:=hr.length_le;omega
 .cases l with
  |nil=>exact .inl rfl
  |cons x r=>
   obtain⟨c,g,off,L,D,H,G,_⟩:=E 0 x rfl;refine .inr ⟨g,off,D,H,G,fun i y hy=> ?_⟩;obtain⟨K,M,C,B,A,_,_,I⟩:=E i y hy;rw[D]at A;cases A;exact⟨K,B,I⟩
structure Gl (P:Program)(N:Nat)(w:World):Prop where
 m:∃m:Int,w.cell? ⟨0,0,none⟩=some (.int .i64 m)
 es:∃tp p,w.var? P "strconv.ErrSyntax" =some #[.iface tp p]
 er:∃tp p,w.var? P "strconv.ErrRange" =some #[.iface tp p]
 tab:Lib.TabIs P w "internal/strconv.uint64pow10" .u64 Lib.pow10Tab
 gs:∃g1 g2 g3,P.globalNamed "strconv.ErrSyntax" =some g1∧P.globalNamed "strconv.ErrRange" =some g2∧P.globalNamed "internal/strconv.uint64pow10" =some g3∧g1<N∧g2<N∧g3<N
 n0:0<N
 n:N<=w.heap.size
theorem yfj {P:Program}{w w':World}{s:String}{g:Nat}(hg:P.globalNamed s=some g)(h:w'.heap[g]? =w.heap[g]?):w'.var? P s=w.var? P s:=by
 simp[World.var?,hg,h]
theorem Gl.keep {P:Program}{N:Nat}{S:Nat->Prop}{w w':World}(h:Gl P N w)(K:Keeps S w w')(hs:∀j,S j->N<=j):Gl P N w':=by
 obtain⟨T,R,Q,O,⟨H,G,F,L,J,I,D,C,B⟩,E,M⟩:=h;have A:∀g,g<N->w'.heap[g]? =w.heap[g]? :=fun g hg=>K.block g (by omega) (fun hS=>by have:=hs g hS;omega);refine⟨?_,?_,?_,?_,⟨H,G,F,L,J,I,D,C,B⟩,E,znf M K.size⟩
 .rw[znt (w:=w) (A 0 E)];exact T
 .rw[yfj L (A H D)];exact R
 .rw[yfj J (A G C)];exact Q
 .unfold Lib.TabIs;rw[yfj I (A F B)];exact O
theorem Gl.below {P:Program}{N:Nat}{w w':World}(h:Gl P N w)(K:Below w w w'):Gl P N w':=h.keep (S:=fun _=>False) (zkb K) (fun _ f=>f.elim)
theorem Gl.drew {P:Program}{N:Nat}{w:World}(h:Gl P N w):Gl P N w.drew:=h.keep (Keeps.refl (fun _=>False) w).drew (fun _ f=>f.elim)
theorem Gl.alloc {P:Program}{N:Nat}{w:World}(h:Gl P N w)(o:Obj):Gl P N (w.alloc o):=h.keep ((Keeps.refl (fun _=>False) w).alloc o) (fun _ f=>f.elim)
end Go.Va
namespace Go.Va
open Go.Own Go.RowKit
inductive PR where
 |ok (x:Val) (k:Nat)
 |deep
 |bad
def ynO (c:UInt8):Bool:=decide (48<=c.toNat/\c.toNat<=57)
def ymE:List UInt8->Nat
 |[]=>0
 |c::r=>bif ynO c then ymE r+1 else 0
theorem ykU:∀l:List UInt8,ymE l<=l.length
 |[]=>znc _
 |c::r=>by
  have:=ykU r;rw[ymE];cases ynO c<;>simp<;>omega
def yeT (s:List UInt8)(k:Nat):Nat:=if yex s k 45 then k+1 else k
def yb7 (s:List UInt8)(k:Nat):Nat:=yeT s k+ymE (s.drop (yeT s k))
theorem ykT {s:List UInt8}{k:Nat}{c:UInt8}(h:yex s k c=true):k<s.length:=by
 unfold yex at h;cases hx:s[k]? with
 |none=>rw[hx]at h;cases h
 |some x=>exact(zge hx).1
theorem yie {s:List UInt8}{k:Nat}(h:k<=s.length):k<=yeT s k/\yeT s k<=s.length:=by
 unfold yeT;split
 .rename_i A
  have:=ykT A;omega
 .omega
theorem yf2 {s:List UInt8}{k:Nat}(h:k<=s.length):k<=yb7 s k/\yb7 s k<=s.length:=by
 have B:=yie h;have A:=ykU (s.drop (yeT s k));simp at A;unfold yb7;omega
def yoY (s:List UInt8)(k:Nat):List UInt8:=(s.drop k).take (yb7 s k - k)
def yf1 (s:List UInt8)(k:Nat):PR:=
 match Lib.parseIntB 64 (yoY s k)with
 | .ok v=>if Lib.itoa v=yoY s k then .ok (.mk 1 v ⟨#[]⟩ []) (yb7 s k)else .bad
 |_=>.bad
end Go.Va
namespace Go.Proofs.YtpagmlndgblhhaaGreatDoor
open Go.RowKit Go.Own Go.Own.MapTy Go.Va Go.Sort
open Go.Own.Cells (sz enc)
def ypJ (w:World)(b:Nat)(s:ByteArray)(k:Nat)(deep:Bool)(e:Ending)(w':World):Prop:=
 TX w' b s (yb7 s.data.toList k) deep/\Keeps (fun j=>j=b) w w'/\match yf1 s.data.toList k with
  | .ok x k2=>(e= .returned (.tuple #[x.num,.bool true])/\x= .mk 1 x.num ⟨#[]⟩ []/\k2=yb7 s.data.toList k)
  |_=>∃n:Int,e= .returned (.tuple #[n,.bool false])
theorem ymC {s:ByteArray}{k:Nat}(h:k<s.size):s.data.toList.drop k=s[k]::s.data.toList.drop (k+1):=by
 have A:k<s.data.toList.length:=by simpa using h
 rw[znr A];rfl
def yqc (b:Nat)(s:ByteArray)(k:Nat)(deep:Bool)(c:UInt8)(w:World)(e:Ending)(w':World):Prop:=
 e= .returned (.bool (yex s.data.toList k c))/\Hid (TX w' b s (bif yex s.data.toList k c then k+1 else k) deep/\Keeps (fun j=>j=b) w w')
theorem ykS (b:Nat)(s:ByteArray)(k:Nat)(deep:Bool)(c:UInt8)(w:World)(H:TX w b s k deep)(hs:s.size<=4294967280):
  Calls Tryz.prog 171 #[.pointer (some ⟨b,0,none⟩),.int .u8 c.toNat] w (yqc b s k deep c w):=by
 cases he:yex s.data.toList k c with
 |false=>
  refine(yop b s k deep c w H he).mono ?_;rintro e A ⟨rfl,rfl⟩;exact⟨by rw[he],zhd ⟨by rw[he];exact H.drew,(Keeps.refl _ _).drew⟩⟩
 |true=>
  have hk:k<s.size:=by have:=ykT he;simpa using this
  refine(ynu b s k deep c w H hs hk he).mono ?_;rintro e A ⟨rfl,rfl⟩;exact⟨by rw[he],zhd ⟨by rw[he];exact(H.move (k+1)).drew,(Keeps.setCell (S:=fun j=>j=b) (p:=⟨b,1,none⟩) (Keeps.refl _ _) (.inl rfl) _).drew⟩⟩
def ypM (w:World)(s:ByteArray)(e:Ending)(w':World):Prop:=
 Below w w w'/\match Lib.parseIntB 64 s.data.toList with
  | .ok v=>e= .returned (.tuple #[v,.nilIface])
  |_=>∃(n:Int) (t:TypeId) (p:Value),e= .returned (.tuple #[n,.iface t p])
theorem yfZ {N:Nat}(s:ByteArray)(w:World)(hs:s.size<=4294967280)(G:Gl Tryz.prog N w):
  Calls Tryz.prog 185 #[s,.int .i64 10,.int .i64 64] w (ypM w s):=by
 cases hp:Lib.parseIntB 64 s.data.toList with
 |ok v=>
  refine(Any.strconv_ParseInt_10_at64_ok Tryz.laysC174 s (by omega) v hp w).mono ?_;rintro e D ⟨rfl,E⟩;refine⟨?_,by rw[hp]⟩;rcases E with rfl|⟨t,rfl⟩
  .exact znv _ _
  .exact Joins.below_bytesWorld _ _ _ _ (znc _)
 |range=>
  obtain⟨A,p,hv⟩:=G.er;refine(Any.strconv_ParseInt_10_at64_range Tryz.laysC174 s (by omega) hp (.iface A p) w (by have C:=World.var?_cell Tryz.laysC174.m16 hv 0;simpa using C) (Or.inr ⟨A,p,rfl⟩)).mono ?_;rintro e D ⟨n,rfl,_,_,B⟩;exact⟨B,by rw[hp];exact⟨_,_,_,rfl⟩⟩
 |_=>
  obtain⟨A,p,hv⟩:=G.es;refine(Any.strconv_ParseInt_10_at64_syntax Tryz.laysC174 s (by omega) hp (.iface A p) w (by have C:=World.var?_cell Tryz.laysC174.m15 hv 0;simpa using C) (Or.inr ⟨A,p,rfl⟩)).mono ?_;rintro e D ⟨n,rfl,_,_,B⟩;exact⟨B,by rw[hp];exact⟨_,_,_,rfl⟩⟩
theorem yjs (w:World)(k:Nat)(os:Array Obj):Below w w (grow (w.drewN k) os):=
 ⟨rfl,rfl,rfl,by simp[grow,World.drewN],fun j hj=>by simp[grow,World.drewN,Array.getElem?_append_left hj]⟩
theorem yfw {N:Nat}(n:Int)(h0: -9223372036854775808<=n)(h1:n<=9223372036854775807)(w:World)(G:Gl Tryz.prog N w):
  Calls Tryz.prog 186 #[n,.int .i64 10] w fun e w'=>e= .returned (.string ⟨(Lib.itoa n).toArray⟩)/\Below w w w':=by
 refine(Any.strconv_FormatInt_10 Tryz.laysM173 n h0 h1 w G.tab).mono ?_;rintro e w' ⟨rfl,k,A,rfl⟩;exact⟨rfl,yjs w k A⟩
def yqn (w:World)(b:Nat)(s:ByteArray)(j0:Nat)(deep:Bool)(gk:Nat)(wr:World):Prop:=
 ∃k,gk=s.size - k/\k<=s.size/\TX wr b s k deep/\Keeps (fun j=>j=b) w wr/\k+ymE (s.data.toList.drop k)=yb7 s.data.toList j0
theorem yeR {l:List UInt8}{v:Int}(h:Lib.parseIntB 64 l= .ok v): -9223372036854775808<=v/\v<=9223372036854775807:=by
 unfold Lib.parseIntB at h;cases l with
 |nil=>cases h
 |cons c r=>
  dsimp only at h;split at h
  .cases h
  .cases h
  .rename_i u C
   split at h
   .cases h
   .rename_i B
    split at h
    .cases h
    .rename_i A
     cases h;by_cases hn:c.toNat=45
     .simp[hn]at A|-
      omega
     .simp[hn]at B|-
      omega
theorem yja {N:Nat}(b:Nat)(s:ByteArray)(j0:Nat)(deep:Bool)(w:World)(H:TX w b s j0 deep)(hs:s.size<=4294967280)(ha:j0<=s.size)(G:Gl Tryz.prog N w)(hN:N<=b):
  Calls Tryz.prog 173 #[.pointer (some ⟨b,0,none⟩)] w (ypJ w b s j0 deep):=by
 have b0:b<w:=H.lt;have c0:=H.c0;have c1:=H.c1;have HH:=zh2 H G;clear H G;have EA:=zhd (show Calls Tryz.prog 171 #[.pointer (some ⟨b,0,none⟩),.int .u8 45] w _ from ykS b s j0 deep 45 w HH.o.1 hs);go_in;go_wp2_with fail;refine EA.o.mono ?_;rintro e x ⟨rfl,i⟩;clear EA c0 c1;have q:=zhd (yie (s:=s.data.toList) (k:=j0) (by simpa using ha));have i:=zhd (show TX x b s (yeT s.data.toList j0) deep/\Keeps (fun j=>j=b) w x from⟨by
  have h:=i.o.1;unfold yeT;cases he:yex s.data.toList j0 45<;>simpa[he]using h,i.o.2⟩)
 generalize hb1:yex s.data.toList j0 45=be;go_wp2_with fail;go_loopg [] (s.size - yeT s.data.toList j0) (fun gk wr=>yqn w b s j0 deep gk wr)
 case atStart=>
  refine⟨yeT s.data.toList j0,rfl,?_,i.o.1,i.o.2,rfl⟩;have:=q.o.2;simpa using this
 case round=>
  obtain⟨k,X,hk,Q,y,Z⟩:=hrel;have b1:b<wr:=Q.lt;have c0:=Q.c0;have c1:=Q.c1;have a:=Q.fr;have L:=zh4 Q y X Z;clear Q y X Z;by_cases hgo:k<s.size/\ynO (s.data.toList.getD k 0)=true
  .obtain⟨A,C⟩:=hgo
   have r:(k:Int)<s.size:=by omega
   have P:s.data.toList.getD k 0=s[k]:=by simp[List.getD,A];rfl
   rw[P]at C;have Y:=zhd C;unfold ynO at C;rw[decide_eq_true_eq]at C;have e1:(48:Int)<=s[k].toNat:=by omega
   have e2:(s[k].toNat:Int)<=57:=by omega
   clear C P;have hw:IntKind.i64.wrap ((k:Int)+1)=(k:Int)+1:=zmk _ (by omega);go_wp2_with fail;refine yaF (by kernel_rfl) (by kernel_rfl) ?_
   repeat(go_big_quiet_step (fail))
   refine wpQuiet_nil ?_;intro u B;have D:=L.o.1.keep (S:=fun _=>False) (zkb B) (fun f=>f);have g:=L.o.2.1.trans (T:=fun _=>False) (zkb B) (fun _ _ f=>f.elim);have c:TX (u.setCell ⟨b,1,none⟩ (.int .i64 ((k:Int)+1))) b s (k+1) deep:=D.move (k+1);have R:=Keeps.setCell (p:=⟨b,1,none⟩) g (.inl rfl) (.int .i64 ((k:Int)+1));have O:=zh2 c R;clear c0 c1 a;have c0:=D.c0;have c1:=D.c1;have a:=D.fr;have b7:=D.lt;clear D g c R B;go_wp2_with fail;go_roundg (s.size - (k+1))
   case measure=>have:=L.o.2.2.1;omega
   case rel=>
    refine⟨k+1,rfl,A,O.o.1,O.o.2,?_⟩;have h:=L.o.2.2.2;rw[ymC A,ymE,Y.o]at h;simp only[znm]at h;omega
  .have hend:=zhd (show k=yb7 s.data.toList j0 from by
    have h:=L.o.2.2.2;by_cases A:k<s.size
    .have P:s.data.toList.getD k 0=s[k]:=by simp[List.getD,A];rfl
     rw[P]at hgo;rw[ymC A,ymE]at h;cases Z:ynO s[k]with
     |false=>rw[Z]at h;simpa using h
     |true=>exact absurd ⟨A,Z⟩ hgo
    .rw[zns (by simp;omega)]at h
     simpa[ymE]using h)
   have Ab:j0<=k:=by
    have:=(yf2 (s:=s.data.toList) (k:=j0) (by simpa using ha)).1;have:=hend.o;omega
   have U:=zhd (show(s.extract j0 k).data.toList=yoY s.data.toList j0 from by
    unfold yoY;rw[<-hend.o];simp[ByteArray.data_extract])
   have m:(s.extract j0 k).size<=4294967280:=by simp;omega
   have PI:=zhd (fun W (HG:Gl Tryz.prog N W)=>yfZ (s.extract j0 k) W m HG);have cs:(¬(k:Int)<s.size/\decide (k<s.size)=false)\/(∃h:k<s.size,(k:Int)<s.size/\¬(48:Int)<=s[k].toNat/\decide ((48:Int)<=(s[k].toNat:Int))=false)\/
     (∃h:k<s.size,(k:Int)<s.size/\(48:Int)<=s[k].toNat/\¬(s[k].toNat:Int)<=57/\decide ((s[k].toNat:Int)<=57)=false):=by
    by_cases A:k<s.size
    .have P:s.data.toList.getD k 0=s[k]:=by simp[List.getD,A];rfl
     rw[P]at hgo;have C:¬(48<=s[k].toNat/\s[k].toNat<=57):=fun h=>hgo ⟨A,by unfold ynO;rw[decide_eq_true_eq];exact h⟩;by_cases h48:48<=s[k].toNat
     .exact .inr (.inr ⟨A,by omega,by omega,by omega,by rw[znz];omega⟩)
     .exact .inr (.inl ⟨A,by omega,by omega,by rw[znz];omega⟩)
    .exact .inl ⟨by omega,by rw[znz];omega⟩
   clear hgo;rcases cs with⟨r,z⟩|⟨A,r,e1,z⟩|⟨A,r,e1,e2,z⟩
   all_goals
    go_wp2_with fail;refine yaF (by kernel_rfl) (by kernel_rfl) ?_
    repeat(go_big_quiet_step (fail))
    refine wpQuiet_nil ?_;intro u B;have D:=L.o.1.keep (S:=fun _=>False) (zkb B) (fun f=>f);have g:=L.o.2.1.trans (T:=fun _=>False) (zkb B) (fun _ _ f=>f.elim);have H7:=zh2 D g;clear c0 c1 a;have c0:=D.c0;have c1:=D.c1;have a:=D.fr;have b7:=D.lt;clear D g B;go_wp2_with fail;refine yaF (by kernel_rfl) (by kernel_rfl) ?_
    repeat(go_big_quiet_step (fail))
    refine wpQuiet_nil ?_;intro w8 K;have c:=H7.o.1.keep (S:=fun _=>False) (zkb K) (fun f=>f);have R:=H7.o.2.trans (T:=fun _=>False) (zkb K) (fun _ _ f=>f.elim);have G8:=HH.o.2.keep R (fun j e=>by omega);have O:=zh3 c R G8;clear c0 c1 a c R G8 K;go_wp2_with fail;refine(PI.o _ O.o.2.2).mono ?_;rintro e w9 ⟨F,HI⟩;have T9:=O.o.1.keep (S:=fun _=>False) (zkb F) (fun f=>f);have K9:=O.o.2.1.trans (T:=fun _=>False) (zkb F) (fun _ _ f=>f.elim);have G9:=O.o.2.2.below F;have M:=zh3 T9 K9 G9;clear T9 K9 G9 F;cases hp:Lib.parseIntB 64 (s.extract j0 k).data.toList with
    |ok v=>
     rw[hp]at HI;have bd:=yeR hp;rw[U.o]at hp;have V:=zhd hp;obtain rfl:=HI;clear hp;have FI:=zhd (yfw v bd.1 bd.2 w9 M.o.2.2);cases hq:(Lib.itoa v==(s.extract j0 k).data.toList)
     all_goals
      have e5:((⟨(Lib.itoa v).toArray⟩:ByteArray).toList==(s.extract j0 k).toList)=(Lib.itoa v==(s.extract j0 k).data.toList):=by rw[zml,zml]
      rw[hq]at e5;rw[U.o]at hq;have l:=zhd hq;clear hq;go_wp2_with fail;refine FI.o.mono ?_;rintro e Aa ⟨rfl,E⟩;have d:=M.o.1.keep (S:=fun _=>False) (zkb E) (fun f=>f);have K10:=M.o.2.1.trans (T:=fun _=>False) (zkb E) (fun _ _ f=>f.elim);have I:=zh2 d K10;clear d K10 E;go_wp2_with fail
      first
      |(refine zng (v:=.tuple #[v,.bool true]) (by simp only[results,Tryz.results173];go_simp;rw[zml,U.o];exact beq_iff_eq.1 l.o) rfl ⟨by rw[<-hend.o];exact I.o.1,I.o.2,?_⟩
        have J:yf1 s.data.toList j0= .ok (.mk 1 v ⟨#[]⟩ []) (yb7 s.data.toList j0):=by
         unfold yf1;rw[V.o];exact if_pos (beq_iff_eq.1 l.o)
        rw[J];exact⟨rfl,rfl,rfl⟩)
      |(refine zng (v:=.tuple #[v,.bool false]) (by simp only[results,Tryz.results173];go_simp;rw[zml,U.o];exact fun e=>by have:=l.o;rw[beq_iff_eq.2 e]at this;cases this) rfl ⟨by rw[<-hend.o];exact I.o.1,I.o.2,?_⟩
        have J:yf1 s.data.toList j0= .bad:=by
         unfold yf1;rw[V.o];exact if_neg (fun e=>by have:=l.o;rw[beq_iff_eq.2 e]at this;cases this)
        rw[J];exact⟨_,rfl⟩)
    |range=>
     rw[hp]at HI;obtain⟨n,t,p,rfl⟩:=HI;rw[U.o]at hp;have V:=zhd hp;clear hp;go_wp2_with fail;refine zng (v:=.tuple #[n,.bool false]) (by simp only[results,Tryz.results173];go_simp) rfl ⟨by rw[<-hend.o];exact M.o.1,M.o.2.1,?_⟩;have J:yf1 s.data.toList j0= .bad:=by
      unfold yf1;rw[V.o]
     rw[J];exact⟨n,rfl⟩
    |_=>
     rw[hp]at HI;obtain⟨n,t,p,rfl⟩:=HI;rw[U.o]at hp;have V:=zhd hp;clear hp;go_wp2_with fail;refine zng (v:=.tuple #[n,.bool false]) (by simp only[results,Tryz.results173];go_simp) rfl ⟨by rw[<-hend.o];exact M.o.1,M.o.2.1,?_⟩;have J:yf1 s.data.toList j0= .bad:=by
      unfold yf1;rw[V.o]
     rw[J];exact⟨n,rfl⟩
end Go.Proofs.YtpagmlndgblhhaaGreatDoor
namespace Go.Va
open Go.Own Go.RowKit
def yal:Val->Nat->Nat×Int->Nat×Int
 | .mk k _ s l,d,(p,e)=>
   bif e !=0 then(p,e)else
   bif decide (256<=p)then(p+1,2)else
   bif k==0||k==1 then(p+1,0)else
   bif k==2 then(p+1,bif decide (256<s.size)then 2 else 0)else
   bif k==3 then walkL l (d+1) (p+1,bif decide (8<=d)then 30 else bif decide (64<l.length)then 2 else 0)else(p+1,9)
where walkL:List Val->Nat->Nat×Int->Nat×Int
 |[],_,c=>c
 |x::r,d,c=>bif c.2 !=0 then c else walkL r d (yal x d c)
theorem ycc (x:Val)(d p:Nat)(e:Int):yal x d (p,e)=bif e !=0 then(p,e)else
  bif decide (256<=p)then(p+1,2)else
  bif x.kind==0||x.kind==1 then(p+1,0)else
  bif x.kind==2 then(p+1,bif decide (256<x.txt.size)then 2 else 0)else
  bif x.kind==3 then yal.walkL x.list (d+1) (p+1,bif decide (8<=d)then 30 else bif decide (64<x.list.length)then 2 else 0)else(p+1,9):=by
 cases x;rw[yal];rfl
theorem yaO (x:Val)(r:List Val)(d:Nat)(c:Nat×Int):yal.walkL (x::r) d c=bif c.2 !=0 then c else yal.walkL r d (yal x d c):=by
 rw[yal.walkL]
theorem ya4 (d:Nat)(c:Nat×Int):yal.walkL [] d c=c:=by rw[yal.walkL]
theorem ya5 (r:List Val)(d:Nat)(c:Nat×Int)(h:(c.2 !=0)=true):yal.walkL r d c=c:=by
 cases r with
 |nil=>rw[ya4]
 |cons x r=>rw[yaO,h];rfl
mutual
theorem ycT:∀(x:Val) (d:Nat) (c:Nat×Int),(c.2=0->c.1<=256)->((yal x d c).2=0->(yal x d c).1<=256)
 | .mk k n s l,d,(p,e),h=>by
   rw[yal];cases h1:(e !=0)with
   |true=>simpa using h
   |false=>
    cases h2:decide (256<=p)with
    |true=>simp
    |false=>
     rw[znz]at h2;cases h3:(k==0||k==1)with
     |true=>simp;omega
     |false=>
      cases h4:(k==2)with
      |true=>simp;omega
      |false=>
       cases h5:(k==3)with
       |true=>
        simp only[znl,znm];exact yhV l (d+1) _ (fun _=>by simp;omega)
       |false=>simp
theorem yhV:∀(l:List Val) (d:Nat) (c:Nat×Int),(c.2=0->c.1<=256)->((yal.walkL l d c).2=0->(yal.walkL l d c).1<=256)
 |[],d,c,h=>by rw[ya4];exact h
 |x::r,d,c,h=>by
  rw[yaO];cases h1:(c.2 !=0)with
  |true=>exact h
  |false=>exact yhV r d _ (ycT x d c h)
end
end Go.Va
namespace Go.Proofs.YtpagmlndgblhhaaGreatDoor
open Go.RowKit Go.Own Go.Own.MapTy Go.Va Go.Sort
open Go.Own.Cells (sz enc)
def CX (w:World)(b:Nat)(c:Nat×Int):Prop:=w.heap[b]? =some (.cells #[.int .i64 c.1,.int .i64 c.2] 182 (0,0))
theorem CX.c0 {w:World}{b:Nat}{c:Nat×Int}(h:CX w b c):w.cell? ⟨b,0,none⟩=some (.int .i64 c.1):=by rw[zch h];rfl
theorem CX.c1 {w:World}{b:Nat}{c:Nat×Int}(h:CX w b c):w.cell? ⟨b,1,none⟩=some (.int .i64 c.2):=by rw[zch h];rfl
theorem CX.fr {w:World}{b:Nat}{c:Nat×Int}(h:CX w b c)(o:Nat):w.frozen? ⟨b,o,none⟩=false:=zfr h o
theorem CX.lt {w:World}{b:Nat}{c:Nat×Int}(h:CX w b c):b<w:=zlt h
theorem CX.keep {w w':World}{b:Nat}{c:Nat×Int}{S:Nat->Prop}(h:CX w b c)(K:Keeps S w w')(hs:¬S b):CX w' b c:=(K.block b h.lt hs).trans h
theorem CX.set0 {w:World}{b p:Nat}{e:Int}(h:CX w b (p,e))(q:Nat):CX (w.setCell ⟨b,0,none⟩ (.int .i64 q)) b (q,e):=by
 unfold CX at h|-;simp[World.setCell,zni,h]
theorem CX.set1 {w:World}{b p:Nat}{e:Int}(h:CX w b (p,e))(f:Int):CX (w.setCell ⟨b,1,none⟩ (.int .i64 f)) b (p,f):=by
 unfold CX at h|-;simp[World.setCell,zni,h]
def yhO (w:World)(b:Nat)(r:Nat×Int)(e:Ending)(w':World):Prop:=e= .returned (.tuple #[])/\CX w' b r/\Keeps (fun j=>j=b) w w'
theorem ylj (x:Val)
  (b d p:Nat)(e:Int)(ck cn:Int)(cs:ByteArray)(la:Option Addr)(ln lc:Nat)(F:Nat->Prop)(w:World)(H:CX w b (p,e))(C:CF F w ⟨ck,cn,cs,la,ln,lc⟩ x)(hF:¬F b)(hd:d<=8)(hp:e=0->p<=256)(r:Nat×Int)(hr:yal x d (p,e)=r)
  (he:(e !=0)=true):
  Calls Tryz.prog 99 #[.pointer (some ⟨b,0,none⟩),.agg #[ck,cn,cs,.slice la ln lc],d] w (yhO w b r)
  :=by
 have K:=zai hF (zai hd hp);have J:=H.lt;have c0:=H.c0;have c1:=H.c1;have I:=H.fr;rw[ycc]at hr;have D:ck=x.kind:=C.kind;have B:cs=x.txt:=C.s;have G:=zh2 H C;clear H C;dsimp only at c0 c1;go_in;rw[he]at hr;have E:=zhd hr;clear hr D B;go_wp2_with fail;have A:=E.o;simp only[znm]at A;subst A;exact zng (v:=.tuple #[]) (by simp only[results,Tryz.results99];go_simp) rfl ⟨rfl,G.o.1.keep (S:=fun _=>False) ((Keeps.refl _ _).alloc _) (fun f=>f),(Keeps.refl _ _).alloc _⟩
theorem yhR (x:Val)
  (b d p:Nat)(e:Int)(ck cn:Int)(cs:ByteArray)(la:Option Addr)(ln lc:Nat)(F:Nat->Prop)(w:World)(H:CX w b (p,e))(C:CF F w ⟨ck,cn,cs,la,ln,lc⟩ x)(hF:¬F b)(hd:d<=8)(hp:e=0->p<=256)(r:Nat×Int)(hr:yal x d (p,e)=r)
  (he:e=0)(h3:(x.kind==3)=false\/256<=p):
  Calls Tryz.prog 99 #[.pointer (some ⟨b,0,none⟩),.agg #[ck,cn,cs,.slice la ln lc],d] w (yhO w b r)
  :=by
 have U:=zai hF hd;subst he;have T:=H.lt;have c0:=H.c0;have c1:=H.c1;have R:=H.fr;rw[ycc]at hr;have B:ck=x.kind:=C.kind;have E:cs=x.txt:=C.s;have Q:=zh2 H C;clear H C;dsimp only at c0 c1;go_in;simp only[bne_self_eq_false,znl]at hr;have hp:=hp rfl;have L:=Q.o.1.set0 (p+1);have N:Keeps (fun j=>j=b) w (w.setCell ⟨b,0,none⟩ (.int .i64 ((p:Int)+1))):=Keeps.setCell (S:=fun j=>j=b) (p:=⟨b,0,none⟩) (Keeps.refl _ w) (.inl rfl) _;have M:∀W,Keeps (fun _=>False) W (W.alloc (.cells #[ck,cn,cs,.slice la ln lc] 38)):=fun W=>(Keeps.refl _ _).alloc _;have D:=zh3 L N M;clear L N M;cases h2:decide (256<=p)with
 |true=>
  rw[h2]at hr;rw[decide_eq_true_eq]at h2;have G:=zhd hr;have P:(256:Int)<(p:Int)+1:=by omega
  clear hr B E;go_wp2_with fail;have A:=G.o;simp only[znm]at A;subst A;exact zng (v:=.tuple #[]) (by simp only[results,Tryz.results99];go_simp) rfl ⟨rfl,(D.o.1.set1 2).keep (D.o.2.2 _) (fun f=>f),((D.o.2.1.setCell (p:=⟨b,1,none⟩) (.inl rfl) (.int .i64 2)).alloc _)⟩
 |false=>
  rw[h2]at hr;simp only[znl]at hr;rw[znz]at h2;have P:¬(256:Int)<(p:Int)+1:=by omega
  have h3:=h3.resolve_right h2;cases I:(x.kind==0||x.kind==1)with
  |true=>
   rw[I]at hr;have G:=zhd hr;have I:ck=0\/ck=1:=by rw[B];simpa using I
   clear hr B E h3;rcases I with rfl|rfl
   all_goals
    go_wp2_with fail;have A:=G.o;simp only[znm]at A;subst A
    go_end0
    exact⟨rfl,D.o.1.keep (D.o.2.2 _) (fun f=>f),D.o.2.1.alloc _⟩
  |false=>
   rw[I]at hr;simp only[znl]at hr;rw[Bool.or_eq_false_iff,<-B]at I;obtain⟨K,J⟩:=I;cases k2:(x.kind==2)with
   |true=>
    rw[k2]at hr;simp only[znm,<-E]at hr;obtain rfl:ck=2:=by rw[B];simpa using k2
    cases hs:decide (256<cs.size)with
    |true=>
     rw[hs]at hr;have G:=zhd hr;rw[decide_eq_true_eq]at hs;have O:(256:Int)<cs.size:=by omega
     clear hr B E h3 K J k2;go_wp2_with fail;have A:=G.o;simp only[znm]at A;subst A
     go_end0
     exact⟨rfl,(D.o.1.set1 2).keep (D.o.2.2 _) (fun f=>f),((D.o.2.1.setCell (p:=⟨b,1,none⟩) (.inl rfl) (.int .i64 2)).alloc _)⟩
    |false=>
     rw[hs]at hr;have G:=zhd hr;rw[znz]at hs;have O:¬(256:Int)<cs.size:=by omega
     clear hr B E h3 K J k2;go_wp2_with fail;have A:=G.o;simp only[znl]at A;subst A
     go_end0
     exact⟨rfl,D.o.1.keep (D.o.2.2 _) (fun f=>f),D.o.2.1.alloc _⟩
   |false=>
    rw[k2,h3]at hr;have G:=zhd hr;rw[<-B]at k2 h3;clear hr B E;go_wp2_with fail;have A:=G.o;simp only[znl]at A;subst A
    go_end0
    exact⟨rfl,(D.o.1.set1 9).keep (D.o.2.2 _) (fun f=>f),((D.o.2.1.setCell (p:=⟨b,1,none⟩) (.inl rfl) (.int .i64 9)).alloc _)⟩
def ypv (w:World)(b d:Nat)(x:Val)(r:Nat×Int)(gk:Nat)(v64:Value)(wr:World):Prop:=
 ∃(i:Nat) (cur:Nat×Int),v64= .int .i64 i/\i<=x.list.length/\gk=x.list.length - i/\CX wr b cur/\Keeps (fun j=>j=b) w wr/\yal.walkL (x.list.drop i) (d+1) cur=r/\(cur.2=0->cur.1<=256/\d<8)/\w<wr.heap.size
theorem yjE (n:Nat)(IH:∀(x:Val),x.parts<=n->∀(b d p:Nat) (e:Int) (c:VC) (F:Nat->Prop) (w:World),CX w b (p,e)->CF F w c x->¬F b->d<=8->(e=0->p<=256)->
   Calls Tryz.prog 99 #[.pointer (some ⟨b,0,none⟩),.agg #[c.kind,c.n,c.s,.slice c.la c.ln c.lc],d] w (yhO w b (yal x d (p,e))))
  (x:Val)
  (b d p:Nat)(e:Int)(ck cn:Int)(cs:ByteArray)(la:Option Addr)(ln lc:Nat)(F:Nat->Prop)(w:World)(H:CX w b (p,e))(C:CF F w ⟨ck,cn,cs,la,ln,lc⟩ x)(hF:¬F b)(hd:d<=8)(hp:e=0->p<=256)(r:Nat×Int)(hr:yal x d (p,e)=r)
  (he:e=0)(h3:(x.kind==3)=true)(h2:¬256<=p)(hx:x.parts<=n+1)(g off:Nat)
  (hel:ln=x.list.length/\ln<=maxLen/\(∀(i:Nat) (y:Val),x.list[i]? =some y->F g/\g<w/\∃c,CF F w c y/\
    w.cell? ⟨g,off+i*4,none⟩=some (.int .i64 c.kind)/\w.cell? ⟨g,off+i*4+1,none⟩=some (.int .i64 c.n)/\w.cell? ⟨g,off+i*4+2,none⟩=some (.string c.s)/\w.cell? ⟨g,off+i*4+3,none⟩=some (.slice c.la c.ln c.lc)))(hla:la=some ⟨g,off,none⟩):
  Calls Tryz.prog 99 #[.pointer (some ⟨b,0,none⟩),.agg #[ck,cn,cs,.slice la ln lc],d] w (yhO w b r)
  :=by
 subst he;subst hla;have b0:=H.lt;have c0:=H.c0;have c1:=H.c1;have f0:=H.fr;rw[ycc]at hr;have Ah:ck=x.kind:=C.kind;have Ak:cs=x.txt:=C.s;have HH:=zh2 H C;clear H C;dsimp only at c0 c1;simp only[bne_self_eq_false,znl]at hr;have hp:=hp rfl;have HI:=zhd IH;have k0:(x.kind==0||x.kind==1)=false:=by have:=beq_iff_eq.1 h3;rw[this];rfl
 have k2:(x.kind==2)=false:=by have:=beq_iff_eq.1 h3;rw[this];rfl
 have Ag:ck=3:=by rw[Ah];exact beq_iff_eq.1 h3
 subst Ag;rw[k0,k2,h3]at hr;have Af:decide (256<=p)=false:=by rw[znz];exact h2
 rw[Af]at hr;simp only[znl,znm]at hr;have e2:¬(256:Int)<(p:Int)+1:=by omega
 obtain⟨Ac,Aj,hel⟩:=hel;rw[<-Ac]at hr;have HE:=zhd hel;have R:=zhd Ac;unfold maxLen at Aj;have T0:=HH.o.1.set0 (p+1);have K0:Keeps (fun j=>j=b) w (w.setCell ⟨b,0,none⟩ (.int .i64 ((p:Int)+1))):=Keeps.setCell (S:=fun j=>j=b) (p:=⟨b,0,none⟩) (Keeps.refl _ w) (.inl rfl) _;have KA:∀W,Keeps (fun _=>False) W (W.alloc (.cells #[.int .i64 3,cn,cs,.slice (some ⟨g,off,none⟩) ln lc] 38)):=fun W=>(Keeps.refl _ _).alloc _;have HT:=zh3 T0 K0 KA;clear T0 K0 KA Ah Ak k0 k2 h3 Af IH hel Ac h2;go_in;have Aa:(∃e1:Int,yal.walkL x.list (d+1) (p+1,e1)=r/\((8<=d/\e1=30)\/(¬8<=d/\64<ln/\e1=2)\/(¬8<=d/\¬64<ln/\e1=0))):=by
  refine⟨_,hr,?_⟩;by_cases h8:8<=d
  .exact .inl ⟨h8,by simp[h8]⟩
  .by_cases Q:64<ln
   .exact .inr (.inl ⟨h8,Q,by simp[h8,Q]⟩)
   .exact .inr (.inr ⟨h8,Q,by simp[h8,Q]⟩)
 clear hr;obtain⟨e1,hr,Al⟩:=Aa;have HR:=zhd hr;clear hr;rcases Al with⟨h8,rfl⟩|⟨h8,Q,rfl⟩|⟨h8,Q,rfl⟩
 .have t8:(8:Int)<=d:=by omega
  go_wp2_with fail;have T1:=(HT.o.1.set1 30).keep (HT.o.2.2 _) (fun f=>f);have K1:=(HT.o.2.1.setCell (p:=⟨b,1,none⟩) (.inl rfl) (.int .i64 30)).alloc (.cells #[.int .i64 3,cn,cs,.slice (some ⟨g,off,none⟩) ln lc] 38);go_loopg [64] (x.list.length) (fun gk v64 wr=>ypv w b d x r gk v64 wr)
  case atStart=>exact⟨0,(p+1,(30:Int)),rfl,znq _,rfl,T1,K1,HR.o,(by intro h;first|(simp at h;done)|(constructor<;>omega)),by simp⟩
  case round=>
   clear T1 K1 c0 c1 f0;obtain⟨i,A,rfl,hi,K,B,L,E,J,Ad⟩:=hrel;have c0:=B.c0;have c1:=B.c1;have f0:=B.fr;have b1:=B.lt;by_cases hin:i<ln
   .obtain⟨y,N⟩:=yac (l:=x.list) (k:=i) (by have:=R.o;omega)
    obtain⟨m,hg,I,t,q0,q1,q2,q3⟩:=HE.o i y N;have U:g≠b:=fun e=>hF (e▸m);have Ae:g<wr:=by omega
    rw[<-L.cell (p:=⟨g,_,none⟩) hg U]at q0 q1 q2 q3;have M:x.list.drop i=y::x.list.drop (i+1):=by
     rw[znr (zge N).1,(zge N).2]
    rw[M,yaO]at E;have O:=t.keep L (fun g h e=>hF (e▸h));have u:y.parts<=n:=by
     have:=Val.parts_lt (v:=x) (zmg N);omega
    have Ab:(i:Int)<ln:=by omega
    cases hce:(A.2 !=0)with
    |true=>
     rw[hce]at E;have D:=zh3 E B L;clear E B L K J t O M N;go_wp2_with fail;have G:=D.o.1;simp only[znm]at G;subst G;exact zng (v:=.tuple #[]) (by simp only[results,Tryz.results99];go_simp) rfl ⟨rfl,D.o.2.1.keep (S:=fun _=>False) ((Keeps.refl _ _).alloc _) (fun f=>f),D.o.2.2.alloc _⟩
    |false=>
     rw[hce]at E;have V:A.2=0:=by simpa using hce
     obtain⟨P,z⟩:=J V;exfalso;omega
   .obtain rfl:i=ln:=by have:=R.o;omega
    rw[zns (by have:=R.o;omega),ya4]at E;have D:=zh3 E B L;clear E B L K J;go_wp2_with fail;have G:=D.o.1;subst G
    go_end0
    exact⟨rfl,D.o.2.1,D.o.2.2⟩
 .have t8:¬(8:Int)<=d:=by omega
  have Ai:(64:Int)<ln:=by omega
  go_wp2_with fail;have T1:=(HT.o.1.set1 2).keep (HT.o.2.2 _) (fun f=>f);have K1:=(HT.o.2.1.setCell (p:=⟨b,1,none⟩) (.inl rfl) (.int .i64 2)).alloc (.cells #[.int .i64 3,cn,cs,.slice (some ⟨g,off,none⟩) ln lc] 38);go_loopg [64] (x.list.length) (fun gk v64 wr=>ypv w b d x r gk v64 wr)
  case atStart=>exact⟨0,(p+1,(2:Int)),rfl,znq _,rfl,T1,K1,HR.o,(by intro h;first|(simp at h;done)|(constructor<;>omega)),by simp⟩
  case round=>
   clear T1 K1 c0 c1 f0;obtain⟨i,A,rfl,hi,K,B,L,E,J,Ad⟩:=hrel;have c0:=B.c0;have c1:=B.c1;have f0:=B.fr;have b1:=B.lt;by_cases hin:i<ln
   .obtain⟨y,N⟩:=yac (l:=x.list) (k:=i) (by have:=R.o;omega)
    obtain⟨m,hg,I,t,q0,q1,q2,q3⟩:=HE.o i y N;have U:g≠b:=fun e=>hF (e▸m);have Ae:g<wr:=by omega
    rw[<-L.cell (p:=⟨g,_,none⟩) hg U]at q0 q1 q2 q3;have M:x.list.drop i=y::x.list.drop (i+1):=by
     rw[znr (zge N).1,(zge N).2]
    rw[M,yaO]at E;have O:=t.keep L (fun g h e=>hF (e▸h));have u:y.parts<=n:=by
     have:=Val.parts_lt (v:=x) (zmg N);omega
    have Ab:(i:Int)<ln:=by omega
    cases hce:(A.2 !=0)with
    |true=>
     rw[hce]at E;have D:=zh3 E B L;clear E B L K J t O M N;go_wp2_with fail;have G:=D.o.1;simp only[znm]at G;subst G;exact zng (v:=.tuple #[]) (by simp only[results,Tryz.results99];go_simp) rfl ⟨rfl,D.o.2.1.keep (S:=fun _=>False) ((Keeps.refl _ _).alloc _) (fun f=>f),D.o.2.2.alloc _⟩
    |false=>
     rw[hce]at E;have V:A.2=0:=by simpa using hce
     obtain⟨P,z⟩:=J V;have D:=zh4 E B L K;have Y:=B.keep (S:=fun _=>False) ((Keeps.refl _ _).alloc (.cells #[I.kind,I.n,I.s,.slice I.la I.ln I.lc] 38)) (fun f=>f);have q:=O.keep (S:=fun _=>False) ((Keeps.refl _ _).alloc (.cells #[I.kind,I.n,I.s,.slice I.la I.ln I.lc] 38)) (fun _ _ f=>f);have CA:=zhd (HI.o y u b (d+1) A.1 A.2 I F _ Y q hF (by omega) (fun _=>P));clear E B L K J t O M N Y q;go_wp2_with fail;refine CA.o.mono ?_;rintro e w5 ⟨rfl,Z,a⟩;have X:=ycT y (d+1) (A.1,A.2) (fun _=>P);have H5:=zh3 Z a X;clear Z a X;go_wp2_with fail;go_roundg (x.list.length - (i+1))
     case measure=>have:=D.o.2.2.2;have:=R.o;omega
     case rel=>
      have T:=D.o.1;simp only[znl]at T;refine⟨i+1,_,by simp,(by have:=R.o;omega),rfl,H5.o.1,(D.o.2.2.1.alloc _).trans H5.o.2.1 (fun _ _ e=>e),T,(fun h=>⟨H5.o.2.2 h,z⟩),?_⟩;have:=H5.o.2.1.size;simp at this;omega
   .obtain rfl:i=ln:=by have:=R.o;omega
    rw[zns (by have:=R.o;omega),ya4]at E;have D:=zh3 E B L;clear E B L K J;go_wp2_with fail;have G:=D.o.1;subst G
    go_end0
    exact⟨rfl,D.o.2.1,D.o.2.2⟩
 .have t8:¬(8:Int)<=d:=by omega
  have Ai:¬(64:Int)<ln:=by omega
  go_wp2_with fail;have T1:=HT.o.1.keep (HT.o.2.2 _) (fun f=>f);have K1:=HT.o.2.1.alloc (.cells #[.int .i64 3,cn,cs,.slice (some ⟨g,off,none⟩) ln lc] 38);go_loopg [64] (x.list.length) (fun gk v64 wr=>ypv w b d x r gk v64 wr)
  case atStart=>exact⟨0,(p+1,(0:Int)),rfl,znq _,rfl,T1,K1,HR.o,(by intro h;first|(simp at h;done)|(constructor<;>omega)),by simp⟩
  case round=>
   clear T1 K1 c0 c1 f0;obtain⟨i,A,rfl,hi,K,B,L,E,J,Ad⟩:=hrel;have c0:=B.c0;have c1:=B.c1;have f0:=B.fr;have b1:=B.lt;by_cases hin:i<ln
   .obtain⟨y,N⟩:=yac (l:=x.list) (k:=i) (by have:=R.o;omega)
    obtain⟨m,hg,I,t,q0,q1,q2,q3⟩:=HE.o i y N;have U:g≠b:=fun e=>hF (e▸m);have Ae:g<wr:=by omega
    rw[<-L.cell (p:=⟨g,_,none⟩) hg U]at q0 q1 q2 q3;have M:x.list.drop i=y::x.list.drop (i+1):=by
     rw[znr (zge N).1,(zge N).2]
    rw[M,yaO]at E;have O:=t.keep L (fun g h e=>hF (e▸h));have u:y.parts<=n:=by
     have:=Val.parts_lt (v:=x) (zmg N);omega
    have Ab:(i:Int)<ln:=by omega
    cases hce:(A.2 !=0)with
    |true=>
     rw[hce]at E;have D:=zh3 E B L;clear E B L K J t O M N;go_wp2_with fail;have G:=D.o.1;simp only[znm]at G;subst G;exact zng (v:=.tuple #[]) (by simp only[results,Tryz.results99];go_simp) rfl ⟨rfl,D.o.2.1.keep (S:=fun _=>False) ((Keeps.refl _ _).alloc _) (fun f=>f),D.o.2.2.alloc _⟩
    |false=>
     rw[hce]at E;have V:A.2=0:=by simpa using hce
     obtain⟨P,z⟩:=J V;have D:=zh4 E B L K;have Y:=B.keep (S:=fun _=>False) ((Keeps.refl _ _).alloc (.cells #[I.kind,I.n,I.s,.slice I.la I.ln I.lc] 38)) (fun f=>f);have q:=O.keep (S:=fun _=>False) ((Keeps.refl _ _).alloc (.cells #[I.kind,I.n,I.s,.slice I.la I.ln I.lc] 38)) (fun _ _ f=>f);have CA:=zhd (HI.o y u b (d+1) A.1 A.2 I F _ Y q hF (by omega) (fun _=>P));clear E B L K J t O M N Y q;go_wp2_with fail;refine CA.o.mono ?_;rintro e w5 ⟨rfl,Z,a⟩;have X:=ycT y (d+1) (A.1,A.2) (fun _=>P);have H5:=zh3 Z a X;clear Z a X;go_wp2_with fail;go_roundg (x.list.length - (i+1))
     case measure=>have:=D.o.2.2.2;have:=R.o;omega
     case rel=>
      have T:=D.o.1;simp only[znl]at T;refine⟨i+1,_,by simp,(by have:=R.o;omega),rfl,H5.o.1,(D.o.2.2.1.alloc _).trans H5.o.2.1 (fun _ _ e=>e),T,(fun h=>⟨H5.o.2.2 h,z⟩),?_⟩;have:=H5.o.2.1.size;simp at this;omega
   .obtain rfl:i=ln:=by have:=R.o;omega
    rw[zns (by have:=R.o;omega),ya4]at E;have D:=zh3 E B L;clear E B L K J;go_wp2_with fail;have G:=D.o.1;subst G
    go_end0
    exact⟨rfl,D.o.2.1,D.o.2.2⟩
theorem yiC (x:Val)
  (b d p:Nat)(e:Int)(ck cn:Int)(cs:ByteArray)(la:Option Addr)(ln lc:Nat)(F:Nat->Prop)(w:World)(H:CX w b (p,e))(C:CF F w ⟨ck,cn,cs,la,ln,lc⟩ x)(hF:¬F b)(hd:d<=8)(hp:e=0->p<=256)(r:Nat×Int)(hr:yal x d (p,e)=r)
  (he:e=0)(h3:(x.kind==3)=true)(h2:¬256<=p)(hl:x.list=[])(hl0:ln=0):
  Calls Tryz.prog 99 #[.pointer (some ⟨b,0,none⟩),.agg #[ck,cn,cs,.slice la ln lc],d] w (yhO w b r)
  :=by
 have c:=hF;subst he;subst hl0;have a:=H.lt;have c0:=H.c0;have c1:=H.c1;have R:=H.fr;rw[ycc]at hr;have I:ck=x.kind:=C.kind;have M:cs=x.txt:=C.s;have Y:=zh2 H C;clear H C;dsimp only at c0 c1;simp only[bne_self_eq_false,znl]at hr;have hp:=hp rfl;have Q:(x.kind==0||x.kind==1)=false:=by have:=beq_iff_eq.1 h3;rw[this];rfl
 have P:(x.kind==2)=false:=by have:=beq_iff_eq.1 h3;rw[this];rfl
 have G:ck=3:=by rw[I];exact beq_iff_eq.1 h3
 subst G;rw[Q,P,h3]at hr;have E:decide (256<=p)=false:=by rw[znz];exact h2
 rw[E,hl,ya4]at hr;simp only[znl,znm]at hr;have Z:¬(256:Int)<(p:Int)+1:=by omega
 have T:=Y.o.1.set0 (p+1);have V:Keeps (fun j=>j=b) w (w.setCell ⟨b,0,none⟩ (.int .i64 ((p:Int)+1))):=Keeps.setCell (S:=fun j=>j=b) (p:=⟨b,0,none⟩) (Keeps.refl _ w) (.inl rfl) _;have U:∀W,Keeps (fun _=>False) W (W.alloc (.cells #[.int .i64 3,cn,cs,.slice la 0 lc] 38)):=fun W=>(Keeps.refl _ _).alloc _;have B:=zh3 T V U;clear T V U I M Q P h3 E h2;go_in;by_cases h8:8<=d
 .have X:(8:Int)<=d:=by omega
  have D:decide (8<=d)=true:=by rw[decide_eq_true_eq];exact h8
  rw[D]at hr;have L:=zhd hr;clear hr D;go_wp2_with fail;have J:=(B.o.1.set1 30).keep (B.o.2.2 _) (fun f=>f);have K:=(B.o.2.1.setCell (p:=⟨b,1,none⟩) (.inl rfl) (.int .i64 30)).alloc (.cells #[.int .i64 3,cn,cs,.slice la 0 lc] 38);go_loopg [64] (0) (fun _ v64 wr=>v64= .int .i64 0/\CX wr b (p+1,30)/\Keeps (fun j=>j=b) w wr)
  case atStart=>exact⟨rfl,J,K⟩
  case round=>
   obtain⟨rfl,N,O⟩:=hrel;have A:=L.o;simp only[znm]at A;subst A;clear c0 c1 R J K L;go_wp2_with fail
   go_end0
   exact⟨rfl,N,O⟩
 .have X:¬(8:Int)<=d:=by omega
  have D:decide (8<=d)=false:=by rw[znz];exact h8
  rw[D]at hr;have L:=zhd hr;clear hr D;go_wp2_with fail;have J:=B.o.1.keep (B.o.2.2 _) (fun f=>f);have K:=B.o.2.1.alloc (.cells #[.int .i64 3,cn,cs,.slice la 0 lc] 38);go_loopg [64] (0) (fun _ v64 wr=>v64= .int .i64 0/\CX wr b (p+1,0)/\Keeps (fun j=>j=b) w wr)
  case atStart=>exact⟨rfl,J,K⟩
  case round=>
   obtain⟨rfl,N,O⟩:=hrel;have A:=L.o;simp at A;subst A;clear c0 c1 R J K L;go_wp2_with fail
   go_end0
   exact⟨rfl,N,O⟩
theorem yhS:∀(n:Nat) (x:Val),x.parts<=n->∀(b d p:Nat) (e:Int) (c:VC) (F:Nat->Prop) (w:World),CX w b (p,e)->CF F w c x->¬F b->d<=8->(e=0->p<=256)->
   Calls Tryz.prog 99 #[.pointer (some ⟨b,0,none⟩),.agg #[c.kind,c.n,c.s,.slice c.la c.ln c.lc],d] w (yhO w b (yal x d (p,e)))
 |0,x,hx,_,_,_,_,_,_,_,_,_,_,_,_=>by have:=x.parts_pos;omega
 |n+1,x,hx,b,d,p,e,⟨ck,cn,cs,la,ln,lc⟩,F,w,H,C,hF,hd,hp=>by
  cases he:(e !=0)with
  |true=>exact ylj x b d p e ck cn cs la ln lc F w H C hF hd hp _ rfl he
  |false=>
   have A:e=0:=by simpa using he
   by_cases h2:256<=p
   .exact yhR x b d p e ck cn cs la ln lc F w H C hF hd hp _ rfl A (.inr h2)
   .cases h3:(x.kind==3)with
    |false=>exact yhR x b d p e ck cn cs la ln lc F w H C hF hd hp _ rfl A (.inl h3)
    |true=>
     obtain⟨I,K,B⟩:=C.l.elems;rcases B with B|⟨g,D,E,G,J,B⟩
     .exact yiC x b d p e ck cn cs la ln lc F w H C hF hd hp _ rfl A h3 h2 B (by rw[show ln=x.list.length from I,B];rfl)
     .exact yjE n (fun y hy=>yhS n y hy) x b d p e ck cn cs la ln lc F w H C hF hd hp _ rfl A h3 h2 hx g D ⟨I,K,fun i y hy=>⟨G,J,B i y hy⟩⟩ E
end Go.Proofs.YtpagmlndgblhhaaGreatDoor
