/- Parts of the proof: what the functions and the plain laws give that later parts lean on. Conditions: none beyond those that each theorem names. -/
import Derived.Shelf.LaysM
import Derived.Shelf.LaysC
import Derived.Shelf.Small.Strs
import Derived.Shelf.Small.Wraps
import Derived.Shelf.Strings.Prefix
import Derived.Shelf.Strings.Cut
import Derived.Shelf.Strings.Split
import Derived.Shelf.Strings.OnBuilder
import Derived.Shelf.Strconv.Itoa3
import Derived.Shelf.Strconv.Itoa4
import Derived.Shelf.Strconv.AtoiAll
import Derived.Shelf.Strconv.ParseIntPublic10
import Derived.Test.YtakljipkaoahnaaGreatDoorProg
import Derived.Lib.IndexLaws
import Derived.Laws.IdiomStrings
import Derived.Shelf.Strconv.ErrVarAll
import Derived.Lib.SmallJoins
import Derived.Test.YtakljipkaoahnaaGreatDoorB2
set_option maxRecDepth 100000
set_option maxHeartbeats 8000000
namespace Go.Own
open Go.RowKit Go.Own.MapTy
@[go_sem] theorem same_drew (w:World) (k:Nat) (W:World):Same w k W.drew↔Same w k W:=Iff.rfl
theorem ext_call_same {P:Program}{f:FuncId}{args:Array Value}{w:World}{e:Ext w}{v:Value}(h:Calls P f args (ext e) fun en w'=>en= .returned v∧ext e=w'):
  Calls P f args (ext e) fun en w''=>en= .returned v∧∃e':Ext w,w''=ext e':=
 h.mono fun _ _ ⟨h1,h2⟩=>⟨h1,e,h2.symm⟩
end Go.Own
namespace Go.Proofs
open Go.Shelf
theorem Tryz.lays99:Go.Proofs.Lays.n99 Tryz.prog Tryz.lays99_ren:={
 mixed:=by kernel_rfl
 f99:=Tryz.func122.trans (congrArg some (by kernel_rfl))
 f206:=Tryz.func153.trans (congrArg some (by kernel_rfl))
 t3:=Tryz.underlying3
 a3:=Tryz.isAgg3
 z3:=Tryz.sizeOf3
 v3:=Tryz.zeroValue3
 t4:=Tryz.underlying4
 a4:=Tryz.isAgg4
 z4:=Tryz.sizeOf4
 v4:=Tryz.zeroValue4
 t9:=Tryz.underlying9
 a9:=Tryz.isAgg9
 z9:=Tryz.sizeOf9
 v9:=Tryz.zeroValue9}
theorem Tryz.lays171:Go.Proofs.Lays.n171 Tryz.prog Tryz.lays171_ren:={
 mixed:=by kernel_rfl
 f129:=Tryz.func179.trans (congrArg some (by kernel_rfl))
 f171:=Tryz.func76.trans (congrArg some (by kernel_rfl))
 f243:=Tryz.func113.trans (congrArg some (by kernel_rfl))
 f246:=Tryz.func130.trans (congrArg some (by kernel_rfl))
 f283:=Tryz.func158.trans (congrArg some (by kernel_rfl))
 f284:=Tryz.func159.trans (congrArg some (by kernel_rfl))
 f285:=Tryz.func160.trans (congrArg some (by kernel_rfl))
 f286:=Tryz.func161.trans (congrArg some (by kernel_rfl))
 f317:=Tryz.func178.trans (congrArg some (by kernel_rfl))
 f318:=Tryz.func180.trans (congrArg some (by kernel_rfl))
 f319:=Tryz.func181.trans (congrArg some (by kernel_rfl))
 f320:=Tryz.func182.trans (congrArg some (by kernel_rfl))
 f337:=Tryz.func191.trans (congrArg some (by kernel_rfl))
 f338:=Tryz.func192.trans (congrArg some (by kernel_rfl))
 t0:=Tryz.underlying0
 a0:=Tryz.isAgg0
 z0:=Tryz.sizeOf0
 v0:=Tryz.zeroValue0
 t2:=Tryz.underlying2
 a2:=Tryz.isAgg2
 z2:=Tryz.sizeOf2
 v2:=Tryz.zeroValue2
 t3:=Tryz.underlying3
 a3:=Tryz.isAgg3
 z3:=Tryz.sizeOf3
 v3:=Tryz.zeroValue3
 t4:=Tryz.underlying4
 a4:=Tryz.isAgg4
 z4:=Tryz.sizeOf4
 v4:=Tryz.zeroValue4
 t5:=Tryz.underlying5
 a5:=Tryz.isAgg5
 z5:=Tryz.sizeOf5
 v5:=Tryz.zeroValue5
 t9:=Tryz.underlying9
 a9:=Tryz.isAgg9
 z9:=Tryz.sizeOf9
 v9:=Tryz.zeroValue9
 t20:=Tryz.underlying20
 a20:=Tryz.isAgg20
 z20:=Tryz.sizeOf20
 v20:=Tryz.zeroValue20
 t37:=Tryz.underlying140
 a37:=Tryz.isAgg140
 z37:=Tryz.sizeOf140
 v37:=Tryz.zeroValue140
 t46:=Tryz.underlying189
 a46:=Tryz.isAgg189
 z46:=Tryz.sizeOf189
 v46:=Tryz.zeroValue189
 t51:=Tryz.underlying238
 a51:=Tryz.isAgg238
 z51:=Tryz.sizeOf238
 v51:=Tryz.zeroValue238
 t53:=Tryz.underlying201
 a53:=Tryz.isAgg201
 z53:=Tryz.sizeOf201
 v53:=Tryz.zeroValue201
 t171:=Tryz.underlying223
 a171:=Tryz.isAgg223
 z171:=Tryz.sizeOf223
 v171:=Tryz.zeroValue223
 t173:=Tryz.underlying226
 a173:=Tryz.isAgg226
 z173:=Tryz.sizeOf226
 v173:=Tryz.zeroValue226
 t212:=Tryz.underlying237
 a212:=Tryz.isAgg237
 z212:=Tryz.sizeOf237
 v212:=Tryz.zeroValue237
 t213:=Tryz.underlying239
 a213:=Tryz.isAgg239
 z213:=Tryz.sizeOf239
 t232:=Tryz.underlying259
 a232:=Tryz.isAgg259
 z232:=Tryz.sizeOf259
 v232:=Tryz.zeroValue259
 t233:=Tryz.underlying260
 a233:=Tryz.isAgg260
 z233:=Tryz.sizeOf260
 v233:=Tryz.zeroValue260
 g17:=by kernel_rfl
 g18:=by kernel_rfl
 g19:=by kernel_rfl}
theorem Tryz.laysC172:Go.Proofs.LaysC.n172 Tryz.prog Tryz.laysC172_ren:={
 mixed:=by kernel_rfl
 f129:=Tryz.func179.trans (congrArg some (by kernel_rfl))
 f171:=Tryz.func76.trans (congrArg some (by kernel_rfl))
 f172:=Tryz.func154.trans (congrArg some (by kernel_rfl))
 f205:=Tryz.func194.trans (congrArg some (by kernel_rfl))
 f243:=Tryz.func113.trans (congrArg some (by kernel_rfl))
 f244:=Tryz.func175.trans (congrArg some (by kernel_rfl))
 f245:=Tryz.func176.trans (congrArg some (by kernel_rfl))
 f246:=Tryz.func130.trans (congrArg some (by kernel_rfl))
 f247:=Tryz.func177.trans (congrArg some (by kernel_rfl))
 f279:=Tryz.func186.trans (congrArg some (by kernel_rfl))
 f280:=Tryz.func187.trans (congrArg some (by kernel_rfl))
 f281:=Tryz.func188.trans (congrArg some (by kernel_rfl))
 f282:=Tryz.func189.trans (congrArg some (by kernel_rfl))
 f283:=Tryz.func158.trans (congrArg some (by kernel_rfl))
 f284:=Tryz.func159.trans (congrArg some (by kernel_rfl))
 f285:=Tryz.func160.trans (congrArg some (by kernel_rfl))
 f286:=Tryz.func161.trans (congrArg some (by kernel_rfl))
 f287:=Tryz.func190.trans (congrArg some (by kernel_rfl))
 f316:=Tryz.func193.trans (congrArg some (by kernel_rfl))
 f317:=Tryz.func178.trans (congrArg some (by kernel_rfl))
 f318:=Tryz.func180.trans (congrArg some (by kernel_rfl))
 f319:=Tryz.func181.trans (congrArg some (by kernel_rfl))
 f320:=Tryz.func182.trans (congrArg some (by kernel_rfl))
 f321:=Tryz.func195.trans (congrArg some (by kernel_rfl))
 f322:=Tryz.func196.trans (congrArg some (by kernel_rfl))
 f337:=Tryz.func191.trans (congrArg some (by kernel_rfl))
 f338:=Tryz.func192.trans (congrArg some (by kernel_rfl))
 t0:=Tryz.underlying0
 a0:=Tryz.isAgg0
 z0:=Tryz.sizeOf0
 v0:=Tryz.zeroValue0
 t2:=Tryz.underlying2
 a2:=Tryz.isAgg2
 z2:=Tryz.sizeOf2
 v2:=Tryz.zeroValue2
 t3:=Tryz.underlying3
 a3:=Tryz.isAgg3
 z3:=Tryz.sizeOf3
 v3:=Tryz.zeroValue3
 t4:=Tryz.underlying4
 a4:=Tryz.isAgg4
 z4:=Tryz.sizeOf4
 v4:=Tryz.zeroValue4
 t5:=Tryz.underlying5
 a5:=Tryz.isAgg5
 z5:=Tryz.sizeOf5
 v5:=Tryz.zeroValue5
 t9:=Tryz.underlying9
 a9:=Tryz.isAgg9
 z9:=Tryz.sizeOf9
 v9:=Tryz.zeroValue9
 t20:=Tryz.underlying20
 a20:=Tryz.isAgg20
 z20:=Tryz.sizeOf20
 v20:=Tryz.zeroValue20
 t21:=Tryz.underlying21
 a21:=Tryz.isAgg21
 z21:=Tryz.sizeOf21
 v21:=Tryz.zeroValue21
 t37:=Tryz.underlying140
 a37:=Tryz.isAgg140
 z37:=Tryz.sizeOf140
 v37:=Tryz.zeroValue140
 t46:=Tryz.underlying189
 a46:=Tryz.isAgg189
 z46:=Tryz.sizeOf189
 v46:=Tryz.zeroValue189
 t51:=Tryz.underlying238
 a51:=Tryz.isAgg238
 z51:=Tryz.sizeOf238
 v51:=Tryz.zeroValue238
 t53:=Tryz.underlying201
 a53:=Tryz.isAgg201
 z53:=Tryz.sizeOf201
 v53:=Tryz.zeroValue201
 t75:=Tryz.underlying144
 a75:=Tryz.isAgg144
 z75:=Tryz.sizeOf144
 v75:=Tryz.zeroValue144
 t76:=Tryz.underlying145
 a76:=Tryz.isAgg145
 z76:=Tryz.sizeOf145
 v76:=Tryz.zeroValue145
 t85:=Tryz.underlying221
 a85:=Tryz.isAgg221
 z85:=Tryz.sizeOf221
 v85:=Tryz.zeroValue221
 t127:=Tryz.underlying190
 a127:=Tryz.isAgg190
 z127:=Tryz.sizeOf190
 v127:=Tryz.zeroValue190
 t143:=Tryz.underlying261
 a143:=Tryz.isAgg261
 z143:=Tryz.sizeOf261
 v143:=Tryz.zeroValue261
 t145:=Tryz.underlying263
 a145:=Tryz.isAgg263
 z145:=Tryz.sizeOf263
 v145:=Tryz.zeroValue263
 t167:=Tryz.underlying248
 a167:=Tryz.isAgg248
 z167:=Tryz.sizeOf248
 v167:=Tryz.zeroValue248
 t168:=Tryz.underlying249
 a168:=Tryz.isAgg249
 z168:=Tryz.sizeOf249
 v168:=Tryz.zeroValue249
 t171:=Tryz.underlying223
 a171:=Tryz.isAgg223
 z171:=Tryz.sizeOf223
 v171:=Tryz.zeroValue223
 t173:=Tryz.underlying226
 a173:=Tryz.isAgg226
 z173:=Tryz.sizeOf226
 v173:=Tryz.zeroValue226
 t175:=Tryz.underlying252
 a175:=Tryz.isAgg252
 z175:=Tryz.sizeOf252
 v175:=Tryz.zeroValue252
 t210:=Tryz.underlying256
 a210:=Tryz.isAgg256
 z210:=Tryz.sizeOf256
 v210:=Tryz.zeroValue256
 t212:=Tryz.underlying237
 a212:=Tryz.isAgg237
 z212:=Tryz.sizeOf237
 v212:=Tryz.zeroValue237
 t213:=Tryz.underlying239
 a213:=Tryz.isAgg239
 z213:=Tryz.sizeOf239
 t232:=Tryz.underlying259
 a232:=Tryz.isAgg259
 z232:=Tryz.sizeOf259
 v232:=Tryz.zeroValue259
 t233:=Tryz.underlying260
 a233:=Tryz.isAgg260
 z233:=Tryz.sizeOf260
 v233:=Tryz.zeroValue260
 g15:=by kernel_rfl
 g16:=by kernel_rfl
 g17:=by kernel_rfl
 g18:=by kernel_rfl
 g19:=by kernel_rfl
 t80:=Tryz.underlying69
 a80:=Tryz.isAgg69
 z80:=Tryz.sizeOf69
 v80:=Tryz.zeroValue69
 i0:=by kernel_rfl
 i2:=by kernel_rfl
 i3:=by kernel_rfl
 i4:=by kernel_rfl
 i5:=by kernel_rfl
 i9:=by kernel_rfl
 i20:=by kernel_rfl
 i21:=by kernel_rfl
 i37:=by kernel_rfl
 i46:=by kernel_rfl
 i51:=by kernel_rfl
 i53:=by kernel_rfl
 i75:=by kernel_rfl
 i76:=by kernel_rfl
 i80:=by kernel_rfl
 i85:=by kernel_rfl
 i127:=by kernel_rfl
 i143:=by kernel_rfl
 i145:=by kernel_rfl
 i167:=by kernel_rfl
 i168:=by kernel_rfl
 i171:=by kernel_rfl
 i173:=by kernel_rfl
 i175:=by kernel_rfl
 i210:=by kernel_rfl
 i212:=by kernel_rfl
 i232:=by kernel_rfl
 i233:=by kernel_rfl
 m15:=by kernel_rfl
 m16:=by kernel_rfl
 m17:=by kernel_rfl
 m18:=by kernel_rfl
 m19:=by kernel_rfl
 c0:=by kernel_rfl
 c2:=by kernel_rfl
 c3:=by kernel_rfl
 c4:=by kernel_rfl
 c5:=by kernel_rfl
 c9:=by kernel_rfl
 c20:=by kernel_rfl
 c21:=by kernel_rfl
 c37:=by kernel_rfl
 c46:=by kernel_rfl
 c51:=by kernel_rfl
 c53:=by kernel_rfl
 c75:=by kernel_rfl
 c76:=by kernel_rfl
 c80:=by kernel_rfl
 c85:=by kernel_rfl
 c127:=by kernel_rfl
 c143:=by kernel_rfl
 c145:=by kernel_rfl
 c167:=by kernel_rfl
 c168:=by kernel_rfl
 c171:=by kernel_rfl
 c173:=by kernel_rfl
 c175:=by kernel_rfl
 c210:=by kernel_rfl
 c212:=by kernel_rfl
 c213:=by kernel_rfl
 c232:=by kernel_rfl
 c233:=by kernel_rfl}
theorem Tryz.laysC174:Go.Proofs.LaysC.n174 Tryz.prog Tryz.laysC174_ren:={
 mixed:=by kernel_rfl
 f129:=Tryz.func179.trans (congrArg some (by kernel_rfl))
 f171:=Tryz.func76.trans (congrArg some (by kernel_rfl))
 f174:=Tryz.func156.trans (congrArg some (by kernel_rfl))
 f205:=Tryz.func194.trans (congrArg some (by kernel_rfl))
 f243:=Tryz.func113.trans (congrArg some (by kernel_rfl))
 f245:=Tryz.func176.trans (congrArg some (by kernel_rfl))
 f246:=Tryz.func130.trans (congrArg some (by kernel_rfl))
 f247:=Tryz.func177.trans (congrArg some (by kernel_rfl))
 f279:=Tryz.func186.trans (congrArg some (by kernel_rfl))
 f280:=Tryz.func187.trans (congrArg some (by kernel_rfl))
 f281:=Tryz.func188.trans (congrArg some (by kernel_rfl))
 f282:=Tryz.func189.trans (congrArg some (by kernel_rfl))
 f283:=Tryz.func158.trans (congrArg some (by kernel_rfl))
 f284:=Tryz.func159.trans (congrArg some (by kernel_rfl))
 f285:=Tryz.func160.trans (congrArg some (by kernel_rfl))
 f286:=Tryz.func161.trans (congrArg some (by kernel_rfl))
 f287:=Tryz.func190.trans (congrArg some (by kernel_rfl))
 f316:=Tryz.func193.trans (congrArg some (by kernel_rfl))
 f317:=Tryz.func178.trans (congrArg some (by kernel_rfl))
 f318:=Tryz.func180.trans (congrArg some (by kernel_rfl))
 f319:=Tryz.func181.trans (congrArg some (by kernel_rfl))
 f320:=Tryz.func182.trans (congrArg some (by kernel_rfl))
 f321:=Tryz.func195.trans (congrArg some (by kernel_rfl))
 f322:=Tryz.func196.trans (congrArg some (by kernel_rfl))
 f337:=Tryz.func191.trans (congrArg some (by kernel_rfl))
 f338:=Tryz.func192.trans (congrArg some (by kernel_rfl))
 t0:=Tryz.underlying0
 a0:=Tryz.isAgg0
 z0:=Tryz.sizeOf0
 v0:=Tryz.zeroValue0
 t2:=Tryz.underlying2
 a2:=Tryz.isAgg2
 z2:=Tryz.sizeOf2
 v2:=Tryz.zeroValue2
 t3:=Tryz.underlying3
 a3:=Tryz.isAgg3
 z3:=Tryz.sizeOf3
 v3:=Tryz.zeroValue3
 t4:=Tryz.underlying4
 a4:=Tryz.isAgg4
 z4:=Tryz.sizeOf4
 v4:=Tryz.zeroValue4
 t5:=Tryz.underlying5
 a5:=Tryz.isAgg5
 z5:=Tryz.sizeOf5
 v5:=Tryz.zeroValue5
 t9:=Tryz.underlying9
 a9:=Tryz.isAgg9
 z9:=Tryz.sizeOf9
 v9:=Tryz.zeroValue9
 t20:=Tryz.underlying20
 a20:=Tryz.isAgg20
 z20:=Tryz.sizeOf20
 v20:=Tryz.zeroValue20
 t21:=Tryz.underlying21
 a21:=Tryz.isAgg21
 z21:=Tryz.sizeOf21
 v21:=Tryz.zeroValue21
 t37:=Tryz.underlying140
 a37:=Tryz.isAgg140
 z37:=Tryz.sizeOf140
 v37:=Tryz.zeroValue140
 t46:=Tryz.underlying189
 a46:=Tryz.isAgg189
 z46:=Tryz.sizeOf189
 v46:=Tryz.zeroValue189
 t51:=Tryz.underlying238
 a51:=Tryz.isAgg238
 z51:=Tryz.sizeOf238
 v51:=Tryz.zeroValue238
 t53:=Tryz.underlying201
 a53:=Tryz.isAgg201
 z53:=Tryz.sizeOf201
 v53:=Tryz.zeroValue201
 t75:=Tryz.underlying144
 a75:=Tryz.isAgg144
 z75:=Tryz.sizeOf144
 v75:=Tryz.zeroValue144
 t85:=Tryz.underlying221
 a85:=Tryz.isAgg221
 z85:=Tryz.sizeOf221
 v85:=Tryz.zeroValue221
 t127:=Tryz.underlying190
 a127:=Tryz.isAgg190
 z127:=Tryz.sizeOf190
 v127:=Tryz.zeroValue190
 t143:=Tryz.underlying261
 a143:=Tryz.isAgg261
 z143:=Tryz.sizeOf261
 v143:=Tryz.zeroValue261
 t145:=Tryz.underlying263
 a145:=Tryz.isAgg263
 z145:=Tryz.sizeOf263
 v145:=Tryz.zeroValue263
 t167:=Tryz.underlying248
 a167:=Tryz.isAgg248
 z167:=Tryz.sizeOf248
 v167:=Tryz.zeroValue248
 t168:=Tryz.underlying249
 a168:=Tryz.isAgg249
 z168:=Tryz.sizeOf249
 v168:=Tryz.zeroValue249
 t171:=Tryz.underlying223
 a171:=Tryz.isAgg223
 z171:=Tryz.sizeOf223
 v171:=Tryz.zeroValue223
 t173:=Tryz.underlying226
 a173:=Tryz.isAgg226
 z173:=Tryz.sizeOf226
 v173:=Tryz.zeroValue226
 t175:=Tryz.underlying252
 a175:=Tryz.isAgg252
 z175:=Tryz.sizeOf252
 v175:=Tryz.zeroValue252
 t210:=Tryz.underlying256
 a210:=Tryz.isAgg256
 z210:=Tryz.sizeOf256
 v210:=Tryz.zeroValue256
 t212:=Tryz.underlying237
 a212:=Tryz.isAgg237
 z212:=Tryz.sizeOf237
 v212:=Tryz.zeroValue237
 t213:=Tryz.underlying239
 a213:=Tryz.isAgg239
 z213:=Tryz.sizeOf239
 t232:=Tryz.underlying259
 a232:=Tryz.isAgg259
 z232:=Tryz.sizeOf259
 v232:=Tryz.zeroValue259
 t233:=Tryz.underlying260
 a233:=Tryz.isAgg260
 z233:=Tryz.sizeOf260
 v233:=Tryz.zeroValue260
 g15:=by kernel_rfl
 g16:=by kernel_rfl
 g17:=by kernel_rfl
 g18:=by kernel_rfl
 g19:=by kernel_rfl
 t80:=Tryz.underlying69
 a80:=Tryz.isAgg69
 z80:=Tryz.sizeOf69
 v80:=Tryz.zeroValue69
 i0:=by kernel_rfl
 i2:=by kernel_rfl
 i3:=by kernel_rfl
 i4:=by kernel_rfl
 i5:=by kernel_rfl
 i9:=by kernel_rfl
 i20:=by kernel_rfl
 i21:=by kernel_rfl
 i37:=by kernel_rfl
 i46:=by kernel_rfl
 i51:=by kernel_rfl
 i53:=by kernel_rfl
 i75:=by kernel_rfl
 i80:=by kernel_rfl
 i85:=by kernel_rfl
 i127:=by kernel_rfl
 i143:=by kernel_rfl
 i145:=by kernel_rfl
 i167:=by kernel_rfl
 i168:=by kernel_rfl
 i171:=by kernel_rfl
 i173:=by kernel_rfl
 i175:=by kernel_rfl
 i210:=by kernel_rfl
 i212:=by kernel_rfl
 i232:=by kernel_rfl
 i233:=by kernel_rfl
 m15:=by kernel_rfl
 m16:=by kernel_rfl
 m17:=by kernel_rfl
 m18:=by kernel_rfl
 m19:=by kernel_rfl
 c0:=by kernel_rfl
 c2:=by kernel_rfl
 c3:=by kernel_rfl
 c4:=by kernel_rfl
 c5:=by kernel_rfl
 c9:=by kernel_rfl
 c20:=by kernel_rfl
 c21:=by kernel_rfl
 c37:=by kernel_rfl
 c46:=by kernel_rfl
 c51:=by kernel_rfl
 c53:=by kernel_rfl
 c75:=by kernel_rfl
 c80:=by kernel_rfl
 c85:=by kernel_rfl
 c127:=by kernel_rfl
 c143:=by kernel_rfl
 c145:=by kernel_rfl
 c167:=by kernel_rfl
 c168:=by kernel_rfl
 c171:=by kernel_rfl
 c173:=by kernel_rfl
 c175:=by kernel_rfl
 c210:=by kernel_rfl
 c212:=by kernel_rfl
 c213:=by kernel_rfl
 c232:=by kernel_rfl
 c233:=by kernel_rfl}
end Go.Proofs
namespace Go.Va
theorem digL_bd (c:UInt8): -1≤digL c∧digL c≤15:=by
 refine⟨Lib.indexByte_ge _ _,?_⟩
 by_cases h:digL c≤15
 ·exact h
 ·exfalso
  obtain⟨o,ho⟩:∃o:Nat,digL c=o:=⟨(digL c).toNat,by omega⟩
  have:=(Lib.indexByte_some ho).1
  have:=(zge this).1
  simp at this
  omega
end Go.Va
namespace Go.Proofs.YtakljipkaoahnaaGreatDoor
open Go.RowKit Go.Own Go.Own.MapTy Go.Va
open Go.Own.Cells (sz enc)
theorem digit_any (c:UInt8)(w:World):Calls Tryz.prog 155 #[.int .u8 c.toNat] w fun e w'=>e= .returned (.int .i64 (digL c))∧w'=w:=by
 have IB:=zhd (show Calls Tryz.prog 132 #[.string ⟨#[48,49,50,51,52,53,54,55,56,57,97,98,99,100,101,102]⟩,.int .u8 c.toNat] w fun e w'=>e= .returned (.int .i64 (digL c))∧w'=w from by
  have h:=Any.strings_IndexByte Tryz.lays137 ⟨#[48,49,50,51,52,53,54,55,56,57,97,98,99,100,101,102]⟩ (c.toNat:Int) w
  have e:((c.toNat:Int).toNat).toUInt8=c:=by simp
  rw[e]at h
  exact h)
 go_enter Tryz.func155,Tryz.ntmps155
 go_wp2_with fail
 refine IB.out.mono ?_
 rintro e w1 ⟨rfl,rfl⟩
 go_wp2_with fail
 go_ret
 exact⟨rfl,rfl⟩
set_option maxHeartbeats 4000000 in
theorem eat_no (b:Nat)(s:ByteArray)(at_:Nat)(deep:Bool)(c:UInt8)(w:World)(H:TX w b s at_ deep)(hn:eatL s.data.toList at_ c=false):
  Calls Tryz.prog 123 #[.pointer (some ⟨b,0,none⟩),.int .u8 c.toNat] w fun e w'=>e= .returned (.bool false)∧w'=w.drew:=by
 have b0:b<w.heap.size:=zlt H
 have c0:=zca H 0 rfl
 have c1:=zca H 1 rfl
 clear H
 go_enter Tryz.func123,Tryz.ntmps123
 by_cases h:at_<s.size
 ·have e0:(at_:Int)<s.size:=by omega
  have hg:s.data.toList[at_]? =some s[at_]:=by simp[h];rfl
  rw[eatL,hg]at hn
  have hc:(s[at_]==c)=false:=hn
  have h1:((s[at_].toNat:Int)==(c.toNat:Int))=false:=by
   rw[beq_eq_false_iff_ne]at hc⊢
   exact fun e=>hc (UInt8.toNat_inj.1 (by omega))
  go_wp2_with fail
  go_region
  go_wp2_with fail
  go_ret
  exact⟨rfl,rfl⟩
 ·have e0:¬(at_:Int)<s.size:=by omega
  go_wp2_with fail
  go_region
  go_wp2_with fail
  go_ret
  exact⟨rfl,rfl⟩
set_option maxHeartbeats 4000000 in
theorem eat_yes (b:Nat)(s:ByteArray)(at_:Nat)(deep:Bool)(c:UInt8)(w:World)(H:TX w b s at_ deep)(hs:s.size≤4294967280)(h:at_<s.size)(hn:eatL s.data.toList at_ c=true):
  Calls Tryz.prog 123 #[.pointer (some ⟨b,0,none⟩),.int .u8 c.toNat] w fun e w'=>e= .returned (.bool true)∧w'=(w.setCell ⟨b,1,none⟩ (.int .i64 (at_+1))).drew:=by
 have b0:b<w.heap.size:=zlt H
 have c0:=zca H 0 rfl
 have c1:=zca H 1 rfl
 have f0:∀o,w.frozen? ⟨b,o,none⟩=false:=fun o=>zfr H o
 clear H
 go_enter Tryz.func123,Tryz.ntmps123
 have e0:(at_:Int)<s.size:=by omega
 have hg:s.data.toList[at_]? =some s[at_]:=by simp[h];rfl
 rw[eatL,hg]at hn
 have hc:(s[at_]==c)=true:=hn
 have h1:((s[at_].toNat:Int)==(c.toNat:Int))=true:=by
  rw[beq_iff_eq]at hc⊢
  rw[hc]
 have hw:wrap64 ((at_:Int)+1)=(at_:Int)+1:=by unfold wrap64;omega
 go_wp2_with fail
 go_region
 go_wp2_with fail
 go_ret
 exact⟨rfl,rfl⟩
theorem TX.move {w:World}{b:Nat}{s:ByteArray}{at_:Nat}{deep:Bool}(H:TX w b s at_ deep)(k:Nat):TX (w.setCell ⟨b,1,none⟩ (.int .i64 k)) b s k deep:=by
 unfold TX at H⊢
 simp[World.setCell,Array.getElem?_modify,H]
theorem TX.c0 {w:World}{b:Nat}{s:ByteArray}{at_:Nat}{deep:Bool}(H:TX w b s at_ deep):w.cell? ⟨b,0,none⟩=some (.string s):=by rw[zch H];rfl
theorem TX.c1 {w:World}{b:Nat}{s:ByteArray}{at_:Nat}{deep:Bool}(H:TX w b s at_ deep):w.cell? ⟨b,1,none⟩=some (.int .i64 at_):=by rw[zch H];rfl
theorem TX.c2 {w:World}{b:Nat}{s:ByteArray}{at_:Nat}{deep:Bool}(H:TX w b s at_ deep):w.cell? ⟨b,2,none⟩=some (.bool deep):=by rw[zch H];rfl
theorem TX.fr {w:World}{b:Nat}{s:ByteArray}{at_:Nat}{deep:Bool}(H:TX w b s at_ deep)(o:Nat):w.frozen? ⟨b,o,none⟩=false:=zfr H o
theorem TX.lt {w:World}{b:Nat}{s:ByteArray}{at_:Nat}{deep:Bool}(H:TX w b s at_ deep):b<w.heap.size:=zlt H
theorem TX.drew {w:World}{b:Nat}{s:ByteArray}{at_:Nat}{deep:Bool}(H:TX w b s at_ deep):TX w.drew b s at_ deep:=H
theorem TX.keep {w w':World}{b:Nat}{s:ByteArray}{at_:Nat}{deep:Bool}{S:Nat→Prop}(H:TX w b s at_ deep)(K:Keeps S w w')(hs:¬S b):TX w' b s at_ deep:=(K.block b (zlt H) hs).trans H
end Go.Proofs.YtakljipkaoahnaaGreatDoor
namespace Go.Va
open Go.Own Go.RowKit
theorem quotL_cons (acc:List UInt8)(k:Nat)(c:UInt8)(r:List UInt8):quotL acc k (c::r)=
  if c.toNat=34 then some (acc,k+1)else
  if c.toNat<32∨126<c.toNat then none else
  if c.toNat≠92 then quotL (acc++[c]) (k+1) r else
  match r with
  |[]=>none
  |d::r1=>
   if d.toNat=34 then quotL (acc++[34]) (k+2) r1 else
   if d.toNat=92 then quotL (acc++[92]) (k+2) r1 else
   if d.toNat≠120 then none else
   match r1 with
   |a::b::r2=>if hexBad a b then none else quotL (acc++[UInt8.ofNat (hexV a b).toNat]) (k+4) r2
   |_=>none:=by
 first|(rw[quotL.eq_def];done)|(rw[quotL.eq_def];rfl)
theorem quotL_nil (acc:List UInt8)(k:Nat):quotL acc k []=none:=by rw[quotL.eq_def]
end Go.Va
namespace Go.Proofs.YtakljipkaoahnaaGreatDoor
open Go.RowKit Go.Own Go.Own.MapTy Go.Va
open Go.Own.Cells (sz enc)
theorem QRel.app {w wx w6:World}{b:Nat}{s:ByteArray}{deep:Bool}{r:Option (List UInt8×Nat)}{k:Nat}{v4 v6:Value}{acc:List UInt8}{x:UInt8}{o:Obj}(b0:b<w.heap.size)(hT:TX wx b s k deep)(hK:Keeps (fun j=>j=b) w wx)
  (hO:∀g,v4.ownBlock=some g→w.heap.size≤g)(hk6:Keeps (fun j=>v4.ownBlock=some j) (wx.alloc o) w6)(hr6:RowAt w6 5 v6 (acc++[x]))(hf6:∀g,v6.ownBlock=some g→v4.ownBlock=some g∨(wx.alloc o).heap.size≤g)
  (hq:quotL (acc++[x]) k (s.data.toList.drop k)=r)(hk:k≤s.size)(hak:acc.length+1≤k):QRel w b s deep r (s.size - k) v6 w6:=by
 have k0:Keeps (fun _=>False) wx (wx.alloc o):=(Keeps.refl _ _).alloc _
 have hsz:=hK.size
 refine⟨k,acc++[x],rfl,hk,by simp;exact hak,(hT.keep k0 (fun f=>f)).keep hk6 (fun e=>by have:=hO b e;omega),hr6,hq,(hK.trans k0 (fun _ _ f=>f.elim)).trans hk6 (fun j hj e=>by have:=hO j e;omega),fun g hg=> ?_⟩
 rcases hf6 g hg with e|e
 ·exact hO g e
 ·have e':wx.heap.size+1≤g:=by simpa using e
  omega
theorem new_set (wr:World)(a:Addr)(v:Value)(o:Obj):((wr.setCell a v).alloc o).heap[wr.heap.size]? =some o:=by
 have:=heap_alloc_new (wr.setCell a v) o
 rwa[setCell_size]at this
theorem new_byte (wr:World)(a:Addr)(v:Value)(x:Int)(y:UInt8)(t:TypeId)(h:(y.toNat:Int)=x):((wr.setCell a v).alloc (.cells #[.int .u8 x] t)).heap[wr.heap.size]? =some (.cells (Cells.enc y).toArray t):=by
 rw[new_set,←h]
 rfl
theorem drop_at {s:ByteArray}{k:Nat}(h:k<s.size):s.data.toList.drop k=s[k]::s.data.toList.drop (k+1):=by
 have h':k<s.data.toList.length:=by simpa using h
 rw[List.drop_eq_getElem_cons h']
 rfl
theorem quoted_any (b:Nat)(s:ByteArray)(at_:Nat)(deep:Bool)(w:World)(H:TX w b s at_ deep)(hs:s.size≤4294967280)(ha:at_≤s.size):
  Calls Tryz.prog 124 #[.pointer (some ⟨b,0,none⟩)] w (QPost w b s deep (quotL [] at_ (s.data.toList.drop at_))):=by
 have b0:b<w.heap.size:=zlt H
 have HH:=zhd H
 clear H
 generalize hr:quotL [] at_ (s.data.toList.drop at_)=r
 have HR0:=zhd hr
 clear hr
 go_enter Tryz.func124,Tryz.ntmps124
 go_wp2_with fail
 go_loopg [4] (s.size - at_) (fun gk v4 wr=>QRel w b s deep r gk v4 wr)
 case atStart=>exact⟨at_,[],rfl,ha,Nat.zero_le _,HH.out,.inl ⟨rfl,rfl⟩,HR0.out,Keeps.refl _ _,fun g hg=>by cases hg⟩
 case round=>
  obtain⟨k,acc,hgk,hk,hak,hT,hR,hq,hK,hO⟩:=hrel
  have c0:=zca hT 0 rfl
  have c1:=zca hT 1 rfl
  have f0:∀o,wr.frozen? ⟨b,o,none⟩=false:=fun o=>zfr hT o
  have hb:b<wr.heap.size:=zlt hT
  have hR1:RowAt (wr.setCell ⟨b,1,none⟩ (.int .i64 ((k:Int)+1))) 5 _ acc:=hR.keep (Keeps.setCell (S:=fun j=>j=b) (p:=⟨b,1,none⟩) (Keeps.refl _ _) (.inl rfl) _) (fun g hg e=>by have:=hO g hg;omega)
  have hK1:Keeps (fun j=>j=b) w (wr.setCell ⟨b,1,none⟩ (.int .i64 ((k:Int)+1))):=hK.setCell (p:=⟨b,1,none⟩) (.inl rfl) _
  have hT1:TX (wr.setCell ⟨b,1,none⟩ (.int .i64 ((k:Int)+1))) b s (k+1) deep:=hT.move (k+1)
  have HX:=zh6 hT hR hK hO hgk hak
  have H1:=zh3 hT1 hR1 hK1
  clear hT hR hK hO hgk hak hT1 hR1 hK1
  by_cases hkn:k<s.size
  ·have e0:(k:Int)<s.size:=by omega
   have hw:wrap64 ((k:Int)+1)=(k:Int)+1:=by unfold wrap64;omega
   rw[drop_at hkn]at hq
   have hc0:∃c,c=s[k]:=⟨_,rfl⟩
   obtain⟨c,hc⟩:=hc0
   rw[←hc,quotL_cons]at hq
   by_cases h34:c.toNat=34
   ·rw[if_pos h34]at hq
    have HQ:=zhd hq
    clear hq
    have hcv:=run_str H1.out.2.1.drew.drew 140 9 5 Tryz.underlying140 Tryz.underlying5 Tryz.underlying9
    have h1:((s[k].toNat:Int)==34)=true:=by rw[←hc];simp[h34]
    go_wp2_with fail
    go_region
    go_wp2_with fail
    go_region
    go_wp2_with fail
    rw[←HQ.out]
    exact bodyPost_ret (v:=.tuple #[.string ⟨acc.toArray⟩,.bool true]) (by simp only[results,Tryz.results124];go_simp) rfl ⟨k+1,hkn,H1.out.1.drew.drew,H1.out.2.2.drew.drew,rfl,rfl⟩
   ·rw[if_neg h34]at hq
    have h1:((s[k].toNat:Int)==34)=false:=by rw[←hc,beq_eq_false_iff_ne];omega
    by_cases hbad:c.toNat<32∨126<c.toNat
    ·rw[if_pos hbad]at hq
     have HQ:=zhd hq
     clear hq
     rw[hc]at hbad
     by_cases hlo:s[k].toNat<32
     ·have h2:((s[k].toNat:Int)<32):=by omega
      go_wp2_with fail
      go_region
      go_wp2_with fail
      go_region
      go_wp2_with fail
      rw[←HQ.out]
      exact bodyPost_ret (v:=.tuple #[.string ⟨#[]⟩,.bool false]) (by simp only[results,Tryz.results124];go_simp) rfl ⟨k+1,hkn,H1.out.1.drew.drew,H1.out.2.2.drew.drew,rfl⟩
     ·have h2:¬((s[k].toNat:Int)<32):=by omega
      have h3:((126:Int)<(s[k].toNat:Int)):=by omega
      go_wp2_with fail
      go_region
      go_wp2_with fail
      go_region
      go_wp2_with fail
      rw[←HQ.out]
      exact bodyPost_ret (v:=.tuple #[.string ⟨#[]⟩,.bool false]) (by simp only[results,Tryz.results124];go_simp) rfl ⟨k+1,hkn,H1.out.1.drew.drew,H1.out.2.2.drew.drew,rfl⟩
    ·rw[if_neg hbad]at hq
     have h2:¬((s[k].toNat:Int)<32):=by rw[←hc];omega
     have h3:¬((126:Int)<(s[k].toNat:Int)):=by rw[←hc];omega
     by_cases h92:c.toNat=92
     ·rw[if_neg (by omega)]at hq
      have h4:((s[k].toNat:Int)!=92)=false:=by rw[←hc];simp[h92]
      have he0:∀(hk2:k+1<s.size) x,eatL s.data.toList (k+1) x=(s[k+1]==x):=fun hk2 x=>by
       have hg:s.data.toList[k+1]? =some s[k+1]:=by simp[hk2];rfl
       rw[eatL,hg]
      by_cases hN:eatL s.data.toList (k+1) 34=false∧eatL s.data.toList (k+1) 92=false∧eatL s.data.toList (k+1) 120=false
      ·
       have HQ:=zhd (show(none:Option (List UInt8×Nat))=r from by
        by_cases hk2:k+1<s.size
        ·rw[he0 hk2,he0 hk2,he0 hk2]at hN
         simp only[beq_eq_false_iff_ne]at hN
         rw[drop_at hk2]at hq
         dsimp only at hq
         rw[if_neg (show¬s[k+1].toNat=34 from fun e=>hN.1 (UInt8.toNat_inj.1 e)),if_neg (show¬s[k+1].toNat=92 from fun e=>hN.2.1 (UInt8.toNat_inj.1 e)),if_pos (show s[k+1].toNat≠120 from fun e=>hN.2.2 (UInt8.toNat_inj.1 e))]at hq
         exact hq
        ·rw[List.drop_eq_nil_of_le (by simp;omega)]at hq
         exact hq)
       clear hq
       have EN1:=zhd (show Calls Tryz.prog 123 #[.pointer (some ⟨b,0,none⟩),.int .u8 34] _ _ from eat_no b s (k+1) deep 34 _ H1.out.1.drew.drew hN.1)
       have EN2:=zhd (show Calls Tryz.prog 123 #[.pointer (some ⟨b,0,none⟩),.int .u8 92] _ _ from eat_no b s (k+1) deep 92 _ H1.out.1.drew.drew.drew hN.2.1)
       have EN3:=zhd (show∀W,Below _ _ W→Calls Tryz.prog 123 #[.pointer (some ⟨b,0,none⟩),.int .u8 120] W (fun en w'=>en= .returned (.bool false)∧Below W.heap.size W w')from fun W hB=>(eat_no b s (k+1) deep 120 W (H1.out.1.drew.drew.drew.drew.keep (S:=fun _=>False) (zkb hB) (fun f=>f)) hN.2.2).mono (fun e' w' ⟨h1,h2⟩=>⟨h1,by rw[h2];exact(Below.refl _ _).drew⟩))
       go_wp2_with fail
       go_region
       go_wp2_with fail
       go_region
       go_wp2_with fail
       refine EN1.out.mono ?_
       rintro e w1 ⟨rfl,rfl⟩
       go_wp2_with fail
       refine EN2.out.mono ?_
       rintro e w2 ⟨rfl,rfl⟩
       go_wp2_with fail
       refine wp_region_ext (by kernel_rfl) (by kernel_rfl) ?_
       repeat(go_big_quiet_step ((go_at_call 123;exact ext_call (EN3.out _ (Subtype.property _)))))
       refine wpQuiet_nil ?_
       intro w7 hB7
       have hT7:=H1.out.1.drew.drew.drew.drew.keep (S:=fun _=>False) (zkb hB7) (fun f=>f)
       have hK7:=H1.out.2.2.drew.drew.drew.drew.trans (T:=fun _=>False) (zkb hB7) (fun _ _ f=>f.elim)
       go_wp2_with fail
       rw[←HQ.out]
       exact bodyPost_ret (v:=.tuple #[.string ⟨#[]⟩,.bool false]) (by simp only[results,Tryz.results124];go_simp) rfl ⟨k+1,hkn,hT7,hK7,rfl⟩
      by_cases hk2:k+1<s.size
      ·have he:∀x,eatL s.data.toList (k+1) x=(s[k+1]==x):=fun x=>by
        have hg:s.data.toList[k+1]? =some s[k+1]:=by simp[hk2];rfl
        rw[eatL,hg]
       rw[drop_at hk2]at hq
       dsimp only at hq
       by_cases d34:s[k+1].toNat=34
       ·rw[if_pos d34]at hq
        have EA:=zhd (show Calls Tryz.prog 123 #[.pointer (some ⟨b,0,none⟩),.int .u8 34] _ _ from eat_yes b s (k+1) deep 34 _ H1.out.1.drew.drew hs hk2 (by rw[he,beq_iff_eq];exact UInt8.toNat_inj.1 d34))
        have HQ:=zhd hq
        clear hq
        go_wp2_with fail
        go_region
        go_wp2_with fail
        go_region
        go_wp2_with fail
        refine EA.out.mono ?_
        rintro e w2 ⟨rfl,hw2⟩
        have hT2:TX w2 b s (k+2) deep:=by rw[hw2];exact(H1.out.1.drew.drew.move (k+2)).drew
        have hK2:Keeps (fun j=>j=b) w w2:=by rw[hw2];exact(Keeps.setCell (p:=⟨b,1,none⟩) H1.out.2.2.drew.drew (.inl rfl) _).drew
        have hR2:=(H1.out.2.1.drew.drew.keep (Keeps.setCell (S:=fun j=>j=b) (p:=⟨b,1,none⟩) (Keeps.refl _ _) (.inl rfl) (.int .i64 (((k+1:Nat):Int)+1))) (fun g hg e=>by have:=HX.out.2.2.2.1 g hg;omega)).drew
        rw[←hw2]at hR2
        have H2:=zh3 hT2 hR2 hK2
        clear hT2 hR2 hK2 hw2
        go_wp2_with (at_builtin;go_must (refine wp_appW (α:=UInt8) elemB rfl (.tmp 57) (.tmp 58) rfl (H2.out.2.1.alloc _) 34 rfl rfl (heap_alloc_new _ _) (by have:=HX.out.2.2.2.2.2;omega) (by have:=HX.out.2.2.2.2.2;unfold maxLen;omega) ?_);intro a6 q6 w6 hr6 hk6 hf6)
        go_roundg (s.size - (k+2))
        case measure=>have:=HX.out.2.2.2.2.1;omega
        case rel=>exact QRel.app b0 H2.out.1 H2.out.2.2 HX.out.2.2.2.1 hk6 hr6 hf6 HQ.out hk2 (by have:=HX.out.2.2.2.2.2;omega)
       ·rw[if_neg d34]at hq
        have EN:=zhd (show Calls Tryz.prog 123 #[.pointer (some ⟨b,0,none⟩),.int .u8 34] _ _ from eat_no b s (k+1) deep 34 _ H1.out.1.drew.drew (by rw[he,beq_eq_false_iff_ne];exact fun e=>d34 (by rw[e];rfl)))
        by_cases d92:s[k+1].toNat=92
        ·rw[if_pos d92]at hq
         have EA:=zhd (show Calls Tryz.prog 123 #[.pointer (some ⟨b,0,none⟩),.int .u8 92] _ _ from eat_yes b s (k+1) deep 92 _ H1.out.1.drew.drew.drew hs hk2 (by rw[he,beq_iff_eq];exact UInt8.toNat_inj.1 d92))
         have HQ:=zhd hq
         clear hq
         go_wp2_with fail
         go_region
         go_wp2_with fail
         go_region
         go_wp2_with fail
         refine EN.out.mono ?_
         rintro e w1 ⟨rfl,rfl⟩
         go_wp2_with fail
         refine EA.out.mono ?_
         rintro e w2 ⟨rfl,hw2⟩
         have hT2:TX w2 b s (k+2) deep:=by rw[hw2];exact(H1.out.1.drew.drew.drew.move (k+2)).drew
         have hK2:Keeps (fun j=>j=b) w w2:=by rw[hw2];exact(Keeps.setCell (p:=⟨b,1,none⟩) H1.out.2.2.drew.drew.drew (.inl rfl) _).drew
         have hR2:=(H1.out.2.1.drew.drew.drew.keep (Keeps.setCell (S:=fun j=>j=b) (p:=⟨b,1,none⟩) (Keeps.refl _ _) (.inl rfl) (.int .i64 (((k+1:Nat):Int)+1))) (fun g hg e=>by have:=HX.out.2.2.2.1 g hg;omega)).drew
         rw[←hw2]at hR2
         have H2:=zh3 hT2 hR2 hK2
         clear hT2 hR2 hK2 hw2
         go_wp2_with (at_builtin;go_must (refine wp_appW (α:=UInt8) elemB rfl (.tmp 63) (.tmp 64) rfl (H2.out.2.1.alloc _) 92 rfl rfl (heap_alloc_new _ _) (by have:=HX.out.2.2.2.2.2;omega) (by have:=HX.out.2.2.2.2.2;unfold maxLen;omega) ?_);intro a6 q6 w6 hr6 hk6 hf6)
         go_roundg (s.size - (k+2))
         case measure=>have:=HX.out.2.2.2.2.1;omega
         case rel=>exact QRel.app b0 H2.out.1 H2.out.2.2 HX.out.2.2.2.1 hk6 hr6 hf6 HQ.out hk2 (by have:=HX.out.2.2.2.2.2;omega)
        ·rw[if_neg d92]at hq
         have d120:s[k+1].toNat=120:=by
          refine Classical.byContradiction fun hne=>hN ⟨?_,?_,?_⟩
          ·rw[he,beq_eq_false_iff_ne];exact fun e=>d34 (by rw[e];rfl)
          ·rw[he,beq_eq_false_iff_ne];exact fun e=>d92 (by rw[e];rfl)
          ·rw[he,beq_eq_false_iff_ne];exact fun e=>hne (by rw[e];rfl)
         rw[if_neg (by omega)]at hq
         have EN2:=zhd (show Calls Tryz.prog 123 #[.pointer (some ⟨b,0,none⟩),.int .u8 92] _ _ from eat_no b s (k+1) deep 92 _ H1.out.1.drew.drew.drew (by rw[he,beq_eq_false_iff_ne];exact fun e=>d92 (by rw[e];rfl)))
         obtain⟨wx,hwx⟩:∃wx,wx=(wr.setCell ⟨b,1,none⟩ (.int .i64 ((k:Int)+1))).drew.drew.drew.drew:=⟨_,rfl⟩
         obtain⟨j,hj⟩:∃j,j=k+2:=⟨_,rfl⟩
         have hTx:=H1.out.1.drew.drew.drew.drew
         have hRx:=H1.out.2.1.drew.drew.drew.drew
         have hKx:=H1.out.2.2.drew.drew.drew.drew
         rw[←hwx]at hTx hRx hKx
         have HW:=zhd hwx
         have EA:=zhd (show Calls Tryz.prog 123 #[.pointer (some ⟨b,0,none⟩),.int .u8 120] wx.drew (fun e w'=>e= .returned (.bool true)∧Hid (TX w' b s j deep∧RowAt w' 5 _ acc∧Keeps (fun j=>j=b) w w'))from
          (eat_yes b s (k+1) deep 120 wx.drew hTx.drew hs hk2 (by rw[he,beq_iff_eq];exact UInt8.toNat_inj.1 d120)).mono fun e w' ⟨h1,h2⟩=>⟨h1,zhd (by
            subst hj
            rw[h2]
            exact⟨(hTx.drew.move (k+2)).drew,(hRx.drew.keep (Keeps.setCell (S:=fun j=>j=b) (p:=⟨b,1,none⟩) (Keeps.refl _ _) (.inl rfl) _) (fun g hg e=>by have:=HX.out.2.2.2.1 g hg;omega)).drew,(Keeps.setCell (p:=⟨b,1,none⟩) hKx.drew (.inl rfl) _).drew⟩)⟩)
         have HQ:=zhd hq
         clear hwx hTx hRx hKx hq
         go_wp2_with fail
         go_region
         go_wp2_with fail
         go_region
         go_wp2_with fail
         refine EN.out.mono ?_
         rintro e w1 ⟨rfl,rfl⟩
         go_wp2_with fail
         refine EN2.out.mono ?_
         rintro e w2 ⟨rfl,rfl⟩
         go_wp2_with fail
         rw[←HW.out]
         clear c0 c1 f0 hw h1 h2 h3 h4
         have hjs:j≤s.size:=by omega
         have HJ:=zhd hj
         clear hj
         by_cases hk4:j+2≤s.size
         ·have e4:((j:Int)+2)≤s.size:=by omega
          have HG:=zhd (show(if hexBad s[j] s[j+1]then none else quotL (acc++[UInt8.ofNat (hexV s[j] s[j+1]).toNat]) (j+2) (s.data.toList.drop (j+2)))=r from by
           have h:=HQ.out
           have e:=HJ.out
           subst e
           rw[show k+1+1=k+2 from rfl,drop_at (by omega),drop_at (by omega)]at h
           exact h)
          have HE:=zhd (show gk=s.size - k∧acc.length+1≤j+2∧j=k+2 from by have:=HX.out.2.2.2.2;have:=HJ.out;omega)
          have w2:IntKind.i64.wrap ((j:Int)+2)=(j:Int)+2:=IntWalk.i64_in _ (by omega)
          go_region_with (go_at_call 123;refine EA.out.mono ?_;rintro e w3 ⟨rfl,H3⟩;have c0:=H3.out.1.c0;have c1:=H3.out.1.c1;have f0:=H3.out.1.fr;have b3:=H3.out.1.lt)
          all_goals go_wp2_with fail
          all_goals
           clear w2
           have hj1:j<s.size:=by omega
           have hj2:j+1<s.size:=by omega
           have e5:(0:Int)≤(j:Int)+1:=by omega
           have e6:((j:Int)+1)<s.size:=by omega
           have e7:((j:Int)+1).toNat=j+1:=by omega
           obtain⟨da,hda⟩:∃a,a=digL s[j]:=⟨_,rfl⟩
           obtain⟨db,hdb⟩:∃a,a=digL s[j+1]:=⟨_,rfl⟩
           have DA:=zhd (show∀W,Calls Tryz.prog 155 #[.int .u8 s[j].toNat] W (fun e w'=>e= .returned (.int .i64 da)∧W=w')from fun W=>(digit_any s[j] W).mono fun e w' ⟨h1,h2⟩=>⟨by rw[h1,hda],h2.symm⟩)
           have DB:=zhd (show∀W,Calls Tryz.prog 155 #[.int .u8 s[j+1].toNat] W (fun e w'=>e= .returned (.int .i64 db)∧W=w')from fun W=>(digit_any s[j+1] W).mono fun e w' ⟨h1,h2⟩=>⟨by rw[h1,hdb],h2.symm⟩)
           have ba: -1≤da∧da≤15:=by rw[hda];exact digL_bd _
           have bb: -1≤db∧db≤15:=by rw[hdb];exact digL_bd _
           obtain⟨ba1,ba2⟩:=ba
           obtain⟨bb1,bb2⟩:=bb
           have HV:=zhd (show hexV s[j] s[j+1]=(16*da+db)%256 from by unfold hexV;rw[hda,hdb])
           have HY:=zhd (show((UInt8.ofNat ((16*da+db)%256).toNat).toNat:Int)=(16*da+db)%256 from by
            have:((16*da+db)%256).toNat<256:=by omega
            rw[UInt8.toNat_ofNat_of_lt' (by exact this)]
            omega)
           have HD:=zh2 hda hdb
           clear hda hdb
           have w1:IntKind.i64.wrap ((j:Int)+1)=(j:Int)+1:=IntWalk.i64_in _ (by omega)
           simp only[Act.put,List.setIfInBounds_toArray,List.set_cons_succ,List.set_cons_zero,List.getElem_toArray,List.getElem_cons_succ,List.getElem_cons_zero]
           refine wp_region_ext (by kernel_rfl) (by kernel_rfl) ?_
           repeat(go_big_quiet_step ((go_at_call 155;first|exact ext_call_same (DA.out _)|exact ext_call_same (DB.out _))))
           refine wpQuiet_nil ?_
           intro w7 hB7
           clear w1
           have T7:=H3.out.1.keep (S:=fun _=>False) (zkb hB7) (fun f=>f)
           have R7:=H3.out.2.1.keep (S:=fun _=>False) (zkb hB7) (fun _ _ f=>f)
           have K7:=H3.out.2.2.trans (T:=fun _=>False) (zkb hB7) (fun _ _ f=>f.elim)
           have H7:=zh3 T7 R7 K7
           have T8:TX (w7.setCell ⟨b,1,none⟩ (.int .i64 ((j:Int)+2))) b s (j+2) deep:=T7.move (j+2)
           have R8:=R7.keep (Keeps.setCell (S:=fun j=>j=b) (p:=⟨b,1,none⟩) (Keeps.refl _ _) (.inl rfl) (.int .i64 ((j:Int)+2))) (fun g hg e=>by have:=HX.out.2.2.2.1 g hg;omega)
           have K8:=Keeps.setCell (p:=⟨b,1,none⟩) K7 (.inl rfl) (.int .i64 ((j:Int)+2))
           have H8:=zh3 T8 R8 K8
           clear T7 R7 K7 T8 R8 K8 hB7 c0 c1 f0 b3
           have c0:=H7.out.1.c0
           have c1:=H7.out.1.c1
           have f0:=H7.out.1.fr
           have b3:=H7.out.1.lt
           go_wp2_with (at_builtin;go_must (refine wp_appW (α:=UInt8) elemB rfl (.tmp 129) (.tmp 131) rfl (H8.out.2.1.alloc _) (UInt8.ofNat ((16*da+db)%256).toNat) rfl rfl (new_byte _ _ _ _ _ _ HY.out) (by have:=HE.out;omega) (by have:=HE.out;unfold maxLen;omega) ?_);intro a6 q6 w6 hr6 hk6 hf6)
           all_goals as_aux_lemma=>
            first
            |(have hb:hexBad s[j] s[j+1]=true:=by
               unfold hexBad
               rw[HV.out,←HD.out.1,←HD.out.2,decide_eq_true_eq]
               omega
              have hN:=HG.out
              rw[if_pos hb]at hN
              rw[←hN]
              exact bodyPost_ret (v:=.tuple #[.string ⟨#[]⟩,.bool false]) (by simp only[results,Tryz.results124];go_simp) rfl ⟨j+2,hk4,H8.out.1,H8.out.2.2,rfl⟩)
            |(have hb:¬hexBad s[j] s[j+1]=true:=by
               unfold hexBad
               rw[HV.out,←HD.out.1,←HD.out.2,decide_eq_true_eq]
               omega
              have hN:=HG.out
              rw[if_neg hb,HV.out]at hN
              go_roundg (s.size - (j+2))
              case measure=>have:=HE.out;omega
              case rel=>exact QRel.app b0 H8.out.1 H8.out.2.2 HX.out.2.2.2.1 hk6 hr6 hf6 hN hk4 HE.out.2.1)
         ·have e4:¬((j:Int)+2)≤s.size:=by omega
          have w2:IntKind.i64.wrap ((j:Int)+2)=(j:Int)+2:=IntWalk.i64_in _ (by omega)
          have HN:=zhd (show(none:Option (List UInt8×Nat))=r from by
           rw[←HQ.out]
           have hl:(List.drop (k+1+1) s.data.toList).length<2:=by have:=HJ.out;simp;omega
           match hm:List.drop (k+1+1) s.data.toList with
           |[]=>rfl
           |[_]=>rfl
           |_::_::_=>rw[hm]at hl;simp at hl;omega)
          go_region_with (go_at_call 123;refine EA.out.mono ?_;rintro e w3 ⟨rfl,H3⟩;have c0:=H3.out.1.c0;have c1:=H3.out.1.c1;have f0:=H3.out.1.fr;have b3:=H3.out.1.lt)
          all_goals go_wp2_with fail
          all_goals as_aux_lemma=>
           rw[←HN.out]
           exact bodyPost_ret (v:=.tuple #[.string ⟨#[]⟩,.bool false]) (by simp only[results,Tryz.results124];go_simp) rfl ⟨j,hjs,H3.out.1,H3.out.2.2,rfl⟩
      ·exact absurd ⟨by rw[eatL,List.getElem?_eq_none (by simp;omega)],by rw[eatL,List.getElem?_eq_none (by simp;omega)],by rw[eatL,List.getElem?_eq_none (by simp;omega)]⟩ hN
     ·rw[if_pos h92]at hq
      have HQ:=zhd hq
      clear hq
      have h4:((s[k].toNat:Int)!=92)=true:=by rw[←hc,bne_iff_ne];omega
      go_wp2_with fail
      go_region
      go_wp2_with fail
      go_region
      go_wp2_with (at_builtin;go_must (refine wp_appW (α:=UInt8) elemB rfl (.tmp 50) (.tmp 52) rfl (H1.out.2.1.alloc _).drew.drew s[k] rfl rfl (new_set _ _ _ _) (by have:=HX.out.2.2.2.2.2;omega) (by have:=HX.out.2.2.2.2.2;unfold maxLen;omega) ?_);intro a6 q6 w6 hr6 hk6 hf6)
      go_roundg (s.size - (k+1))
      case measure=>have:=HX.out.2.2.2.2.1;omega
      case rel=>
       have hsz:=HX.out.2.2.1.size
       have hkk:=HX.out.2.2.2.2.2
       have k0:Keeps (fun _=>False) (wr.setCell ⟨b,1,none⟩ (.int .i64 ((k:Int)+1))) _:=((Keeps.refl _ _).alloc (.cells #[.int .u8 s[k].toNat] 5)).drew.drew
       refine⟨k+1,acc++[s[k]],rfl,hkn,by simp;exact hkk,(H1.out.1.keep k0 (fun f=>f)).keep hk6 (fun e=>by have:=HX.out.2.2.2.1 b e;omega),hr6,by rw[←hc];exact HQ.out,(H1.out.2.2.trans k0 (fun _ _ f=>f.elim)).trans hk6 (fun j hj e=>by have:=HX.out.2.2.2.1 j e;omega),fun g hg=> ?_⟩
       rcases hf6 g hg with e|e
       ·exact HX.out.2.2.2.1 g e
       ·have e':wr.heap.size+1≤g:=by simpa[setCell_size]using e
        omega
  ·obtain rfl:k=s.size:=by omega
   rw[List.drop_eq_nil_of_le (by simp),quotL_nil]at hq
   have HQ:=zhd hq
   clear hq
   go_wp2_with fail
   go_region
   go_wp2_with fail
   rw[←HQ.out]
   exact bodyPost_ret (v:=.tuple #[.string ⟨#[]⟩,.bool false]) (by simp only[results,Tryz.results124];go_simp) rfl ⟨s.size,Nat.le_refl _,HX.out.1.drew,HX.out.2.2.1.drew,rfl⟩
end Go.Proofs.YtakljipkaoahnaaGreatDoor
namespace Go.Va
open Go.Own Go.RowKit
theorem digN_le:∀l:List UInt8,digN l≤l.length
 |[]=>Nat.le_refl _
 |c::r=>by
  have:=digN_le r
  rw[digN]
  cases digC c<;>simp<;>omega
theorem eatL_lt {s:List UInt8}{k:Nat}{c:UInt8}(h:eatL s k c=true):k<s.length:=by
 unfold eatL at h
 cases hx:s[k]? with
 |none=>rw[hx]at h;cases h
 |some x=>exact(zge hx).1
theorem numAt_le {s:List UInt8}{k:Nat}(h:k≤s.length):k≤numAt s k∧numAt s k≤s.length:=by
 unfold numAt
 split
 ·rename_i he
  have:=eatL_lt he
  omega
 ·omega
theorem numEnd_le {s:List UInt8}{k:Nat}(h:k≤s.length):k≤numEnd s k∧numEnd s k≤s.length:=by
 have h1:=numAt_le h
 have h2:=digN_le (s.drop (numAt s k))
 simp at h2
 unfold numEnd
 omega
end Go.Va
namespace Go.Proofs.YtakljipkaoahnaaGreatDoor
open Go.RowKit Go.Own Go.Own.MapTy Go.Va Go.Sort
open Go.Own.Cells (sz enc)
theorem dropAt {s:ByteArray}{k:Nat}(h:k<s.size):s.data.toList.drop k=s[k]::s.data.toList.drop (k+1):=by
 have h':k<s.data.toList.length:=by simpa using h
 rw[List.drop_eq_getElem_cons h']
 rfl
theorem eat_any (b:Nat)(s:ByteArray)(k:Nat)(deep:Bool)(c:UInt8)(w:World)(H:TX w b s k deep)(hs:s.size≤4294967280):
  Calls Tryz.prog 123 #[.pointer (some ⟨b,0,none⟩),.int .u8 c.toNat] w (eat2 b s k deep c w):=by
 cases he:eatL s.data.toList k c with
 |false=>
  refine(eat_no b s k deep c w H he).mono ?_
  rintro e w' ⟨rfl,rfl⟩
  exact⟨by rw[he],zhd ⟨by rw[he];exact H.drew,(Keeps.refl _ _).drew⟩⟩
 |true=>
  have hk:k<s.size:=by have:=eatL_lt he;simpa using this
  refine(eat_yes b s k deep c w H hs hk he).mono ?_
  rintro e w' ⟨rfl,rfl⟩
  exact⟨by rw[he],zhd ⟨by rw[he];exact(H.move (k+1)).drew,(Keeps.setCell (S:=fun j=>j=b) (p:=⟨b,1,none⟩) (Keeps.refl _ _) (.inl rfl) _).drew⟩⟩
theorem parseInt_any {N:Nat}(s:ByteArray)(w:World)(hs:s.size≤4294967280)(G:Gl Tryz.prog N w):
  Calls Tryz.prog 156 #[.string s,.int .i64 10,.int .i64 64] w (IPost w s):=by
 cases hp:Lib.parseIntB 64 s.data.toList with
 |ok v=>
  refine(Any.strconv_ParseInt_10_at64_ok Tryz.laysC174 s (by omega) v hp w).mono ?_
  rintro e w' ⟨rfl,hw⟩
  refine⟨?_,by rw[hp]⟩
  rcases hw with rfl|⟨t,rfl⟩
  ·exact Below.refl _ _
  ·exact Joins.below_bytesWorld _ _ _ _ (Nat.le_refl _)
 |range=>
  obtain⟨tp,p,hv⟩:=G.er
  refine(Any.strconv_ParseInt_10_at64_range Tryz.laysC174 s (by omega) hp (.iface tp p) w (by have h0:=World.var?_cell Tryz.laysC174.m16 hv 0;simpa using h0) (Or.inr ⟨tp,p,rfl⟩)).mono ?_
  rintro e w' ⟨n,rfl,_,_,hB⟩
  exact⟨hB,by rw[hp];exact⟨_,_,_,rfl⟩⟩
 |_=>
  obtain⟨tp,p,hv⟩:=G.es
  refine(Any.strconv_ParseInt_10_at64_syntax Tryz.laysC174 s (by omega) hp (.iface tp p) w (by have h0:=World.var?_cell Tryz.laysC174.m15 hv 0;simpa using h0) (Or.inr ⟨tp,p,rfl⟩)).mono ?_
  rintro e w' ⟨n,rfl,_,_,hB⟩
  exact⟨hB,by rw[hp];exact⟨_,_,_,rfl⟩⟩
theorem parse_ok_bound {l:List UInt8}{v:Int}(h:Lib.parseIntB 64 l= .ok v): -9223372036854775808≤v∧v≤9223372036854775807:=by
 unfold Lib.parseIntB at h
 cases l with
 |nil=>cases h
 |cons c r=>
  dsimp only at h
  split at h
  ·cases h
  ·cases h
  ·rename_i u hu
   split at h
   ·cases h
   ·rename_i h1
    split at h
    ·cases h
    ·rename_i h2
     cases h
     by_cases hn:c.toNat=45
     ·simp[hn]at h2⊢
      omega
     ·simp[hn]at h1⊢
      omega
theorem number_any {N:Nat}(b:Nat)(s:ByteArray)(j0:Nat)(deep:Bool)(w:World)(H:TX w b s j0 deep)(hs:s.size≤4294967280)(ha:j0≤s.size)(G:Gl Tryz.prog N w)(hN:N≤b):
  Calls Tryz.prog 125 #[.pointer (some ⟨b,0,none⟩)] w (NPost w b s j0 deep):=by
 have b0:b<w.heap.size:=H.lt
 have c0:=H.c0
 have c1:=H.c1
 have HH:=zh2 H G
 clear H G
 have EA:=zhd (show Calls Tryz.prog 123 #[.pointer (some ⟨b,0,none⟩),.int .u8 45] w _ from eat_any b s j0 deep 45 w HH.out.1 hs)
 go_enter Tryz.func125,Tryz.ntmps125
 go_wp2_with fail
 refine EA.out.mono ?_
 rintro e w1 ⟨rfl,H1⟩
 clear EA c0 c1
 have hle:=zhd (numAt_le (s:=s.data.toList) (k:=j0) (by simpa using ha))
 have H1:=zhd (show TX w1 b s (numAt s.data.toList j0) deep∧Keeps (fun j=>j=b) w w1 from⟨by
  have h:=H1.out.1
  unfold numAt
  cases he:eatL s.data.toList j0 45<;>simpa[he]using h,H1.out.2⟩)
 generalize hb1:eatL s.data.toList j0 45=be
 go_wp2_with fail
 go_loopg [] (s.size - numAt s.data.toList j0) (fun gk wr=>NRel w b s j0 deep gk wr)
 case atStart=>
  refine⟨numAt s.data.toList j0,rfl,?_,H1.out.1,H1.out.2,rfl⟩
  have:=hle.out.2
  simpa using this
 case round=>
  obtain⟨k,hgk,hk,hT,hK,hd⟩:=hrel
  have b1:b<wr.heap.size:=hT.lt
  have c0:=hT.c0
  have c1:=hT.c1
  have f0:=hT.fr
  have HX:=zh4 hT hK hgk hd
  clear hT hK hgk hd
  by_cases hgo:k<s.size∧digC (s.data.toList.getD k 0)=true
  ·obtain⟨hkn,hdc⟩:=hgo
   have e0:(k:Int)<s.size:=by omega
   have hg:s.data.toList.getD k 0=s[k]:=by simp[List.getD,hkn];rfl
   rw[hg]at hdc
   have hdc2:=zhd hdc
   unfold digC at hdc
   rw[decide_eq_true_eq]at hdc
   have e1:(48:Int)≤s[k].toNat:=by omega
   have e2:(s[k].toNat:Int)≤57:=by omega
   clear hdc hg
   have hw:IntKind.i64.wrap ((k:Int)+1)=(k:Int)+1:=IntWalk.i64_in _ (by omega)
   go_wp2_with fail
   refine wp_region_ext (by kernel_rfl) (by kernel_rfl) ?_
   repeat(go_big_quiet_step (fail))
   refine wpQuiet_nil ?_
   intro w7 hB7
   have T7:=HX.out.1.keep (S:=fun _=>False) (zkb hB7) (fun f=>f)
   have K7:=HX.out.2.1.trans (T:=fun _=>False) (zkb hB7) (fun _ _ f=>f.elim)
   have T8:TX (w7.setCell ⟨b,1,none⟩ (.int .i64 ((k:Int)+1))) b s (k+1) deep:=T7.move (k+1)
   have K8:=Keeps.setCell (p:=⟨b,1,none⟩) K7 (.inl rfl) (.int .i64 ((k:Int)+1))
   have H8:=zh2 T8 K8
   clear c0 c1 f0
   have c0:=T7.c0
   have c1:=T7.c1
   have f0:=T7.fr
   have b7:=T7.lt
   clear T7 K7 T8 K8 hB7
   go_wp2_with fail
   go_roundg (s.size - (k+1))
   case measure=>have:=HX.out.2.2.1;omega
   case rel=>
    refine⟨k+1,rfl,hkn,H8.out.1,H8.out.2,?_⟩
    have h:=HX.out.2.2.2
    rw[dropAt hkn,digN,hdc2.out]at h
    simp only[cond_true]at h
    omega
  ·have hend:=zhd (show k=numEnd s.data.toList j0 from by
    have h:=HX.out.2.2.2
    by_cases hkn:k<s.size
    ·have hg:s.data.toList.getD k 0=s[k]:=by simp[List.getD,hkn];rfl
     rw[hg]at hgo
     rw[dropAt hkn,digN]at h
     cases hd:digC s[k]with
     |false=>rw[hd]at h;simpa using h
     |true=>exact absurd ⟨hkn,hd⟩ hgo
    ·rw[List.drop_eq_nil_of_le (by simp;omega)]at h
     simpa[digN]using h)
   have hj0:j0≤k:=by
    have:=(numEnd_le (s:=s.data.toList) (k:=j0) (by simpa using ha)).1
    have:=hend.out
    omega
   have HT:=zhd (show(s.extract j0 k).data.toList=numT s.data.toList j0 from by
    unfold numT
    rw[←hend.out]
    simp[ByteArray.data_extract])
   have hsz:(s.extract j0 k).size≤4294967280:=by simp;omega
   have PI:=zhd (fun W (HG:Gl Tryz.prog N W)=>parseInt_any (s.extract j0 k) W hsz HG)
   have cs:(¬(k:Int)<s.size∧decide (k<s.size)=false)∨(∃h:k<s.size,(k:Int)<s.size∧¬(48:Int)≤s[k].toNat∧decide ((48:Int)≤(s[k].toNat:Int))=false)∨
     (∃h:k<s.size,(k:Int)<s.size∧(48:Int)≤s[k].toNat∧¬(s[k].toNat:Int)≤57∧decide ((s[k].toNat:Int)≤57)=false):=by
    by_cases hkn:k<s.size
    ·have hg:s.data.toList.getD k 0=s[k]:=by simp[List.getD,hkn];rfl
     rw[hg]at hgo
     have hdc:¬(48≤s[k].toNat∧s[k].toNat≤57):=fun h=>hgo ⟨hkn,by unfold digC;rw[decide_eq_true_eq];exact h⟩
     by_cases h48:48≤s[k].toNat
     ·exact .inr (.inr ⟨hkn,by omega,by omega,by omega,by rw[decide_eq_false_iff_not];omega⟩)
     ·exact .inr (.inl ⟨hkn,by omega,by omega,by rw[decide_eq_false_iff_not];omega⟩)
    ·exact .inl ⟨by omega,by rw[decide_eq_false_iff_not];omega⟩
   clear hgo
   rcases cs with⟨e0,e3⟩|⟨hkn,e0,e1,e3⟩|⟨hkn,e0,e1,e2,e3⟩
   all_goals
    go_wp2_with fail
    refine wp_region_ext (by kernel_rfl) (by kernel_rfl) ?_
    repeat(go_big_quiet_step (fail))
    refine wpQuiet_nil ?_
    intro w7 hB7
    have T7:=HX.out.1.keep (S:=fun _=>False) (zkb hB7) (fun f=>f)
    have K7:=HX.out.2.1.trans (T:=fun _=>False) (zkb hB7) (fun _ _ f=>f.elim)
    have H7:=zh2 T7 K7
    clear c0 c1 f0
    have c0:=T7.c0
    have c1:=T7.c1
    have f0:=T7.fr
    have b7:=T7.lt
    clear T7 K7 hB7
    go_wp2_with fail
    refine wp_region_ext (by kernel_rfl) (by kernel_rfl) ?_
    repeat(go_big_quiet_step (fail))
    refine wpQuiet_nil ?_
    intro w8 hB8
    have T8:=H7.out.1.keep (S:=fun _=>False) (zkb hB8) (fun f=>f)
    have K8:=H7.out.2.trans (T:=fun _=>False) (zkb hB8) (fun _ _ f=>f.elim)
    have G8:=HH.out.2.keep K8 (fun j e=>by omega)
    have H8:=zh3 T8 K8 G8
    clear c0 c1 f0 T8 K8 G8 hB8
    go_wp2_with fail
    refine(PI.out _ H8.out.2.2).mono ?_
    rintro e w9 ⟨hB9,HI⟩
    have T9:=H8.out.1.keep (S:=fun _=>False) (zkb hB9) (fun f=>f)
    have K9:=H8.out.2.1.trans (T:=fun _=>False) (zkb hB9) (fun _ _ f=>f.elim)
    have G9:=H8.out.2.2.below hB9
    have H9:=zh3 T9 K9 G9
    clear T9 K9 G9 hB9
    cases hp:Lib.parseIntB 64 (s.extract j0 k).data.toList with
    |ok v=>
     rw[hp]at HI
     have bd:=parse_ok_bound hp
     rw[HT.out]at hp
     have HP:=zhd hp
     obtain rfl:=HI
     clear hp
     have FI:=zhd (formatInt_any v bd.1 bd.2 w9 H9.out.2.2)
     cases hq:(Lib.itoa v==(s.extract j0 k).data.toList)
     all_goals
      have e5:((⟨(Lib.itoa v).toArray⟩:ByteArray).toList==(s.extract j0 k).toList)=(Lib.itoa v==(s.extract j0 k).data.toList):=by rw[ByteArray.toList_eq,ByteArray.toList_eq]
      rw[hq]at e5
      rw[HT.out]at hq
      have HQ:=zhd hq
      clear hq
      go_wp2_with fail
      refine FI.out.mono ?_
      rintro e w10 ⟨rfl,hB10⟩
      have T10:=H9.out.1.keep (S:=fun _=>False) (zkb hB10) (fun f=>f)
      have K10:=H9.out.2.1.trans (T:=fun _=>False) (zkb hB10) (fun _ _ f=>f.elim)
      have H10:=zh2 T10 K10
      clear T10 K10 hB10
      go_wp2_with fail
      first
      |(refine bodyPost_ret (v:=.tuple #[.int .i64 v,.bool true]) (by simp only[results,Tryz.results125];go_simp;rw[ByteArray.toList_eq,HT.out];exact beq_iff_eq.1 HQ.out) rfl ⟨by rw[←hend.out];exact H10.out.1,H10.out.2,?_⟩
        have hn:numR s.data.toList j0= .ok (.mk 1 v ⟨#[]⟩ []) (numEnd s.data.toList j0):=by
         unfold numR
         rw[HP.out]
         exact if_pos (beq_iff_eq.1 HQ.out)
        rw[hn]
        exact⟨rfl,rfl,rfl⟩)
      |(refine bodyPost_ret (v:=.tuple #[.int .i64 v,.bool false]) (by simp only[results,Tryz.results125];go_simp;rw[ByteArray.toList_eq,HT.out];exact fun e=>by have:=HQ.out;rw[beq_iff_eq.2 e]at this;cases this) rfl ⟨by rw[←hend.out];exact H10.out.1,H10.out.2,?_⟩
        have hn:numR s.data.toList j0= .bad:=by
         unfold numR
         rw[HP.out]
         exact if_neg (fun e=>by have:=HQ.out;rw[beq_iff_eq.2 e]at this;cases this)
        rw[hn]
        exact⟨_,rfl⟩)
    |range=>
     rw[hp]at HI
     obtain⟨n,t,p,rfl⟩:=HI
     rw[HT.out]at hp
     have HP:=zhd hp
     clear hp
     go_wp2_with fail
     refine bodyPost_ret (v:=.tuple #[.int .i64 n,.bool false]) (by simp only[results,Tryz.results125];go_simp) rfl ⟨by rw[←hend.out];exact H9.out.1,H9.out.2.1,?_⟩
     have hn:numR s.data.toList j0= .bad:=by
      unfold numR
      rw[HP.out]
     rw[hn]
     exact⟨n,rfl⟩
    |_=>
     rw[hp]at HI
     obtain⟨n,t,p,rfl⟩:=HI
     rw[HT.out]at hp
     have HP:=zhd hp
     clear hp
     go_wp2_with fail
     refine bodyPost_ret (v:=.tuple #[.int .i64 n,.bool false]) (by simp only[results,Tryz.results125];go_simp) rfl ⟨by rw[←hend.out];exact H9.out.1,H9.out.2.1,?_⟩
     have hn:numR s.data.toList j0= .bad:=by
      unfold numR
      rw[HP.out]
     rw[hn]
     exact⟨n,rfl⟩
end Go.Proofs.YtakljipkaoahnaaGreatDoor
