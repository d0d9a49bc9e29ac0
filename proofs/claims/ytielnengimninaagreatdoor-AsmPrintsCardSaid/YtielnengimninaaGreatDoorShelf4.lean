/- What the contract of the library for slices.Sort at integers asks of this program: the table of numbers and the comparison of each body (written by the tool lay-plain.mjs). -/
import Derived.Shelf.LaysM
import Derived.Shelf.LaysC
import Derived.Shelf.Strings.OnBuilder
import Derived.Shelf.Strings.BuilderK
import Derived.Test.YtielnengimninaaGreatDoorProg
namespace Go.Proofs
open Go.Shelf
def Tryz.lays169_ren : Go.Shelf.Ren := ⟨fun | 169 => 56 | n => n, fun | 70 => 103 | 9 => 9 | 0 => 0 | 72 => 106 | 37 => 104 | 127 => 143 | 3 => 3 | 5 => 5 | n => n, fun | n => n⟩
theorem Tryz.lays169 : Go.Proofs.Lays.n169 Tryz.prog Tryz.lays169_ren := {
  mixed := by kernel_rfl
  f169 := Tryz.func56.trans (congrArg some (by kernel_rfl))
  t0 := Tryz.underlying0
  a0 := Tryz.isAgg0
  z0 := Tryz.sizeOf0
  v0 := Tryz.zeroValue0
  t3 := Tryz.underlying3
  a3 := Tryz.isAgg3
  z3 := Tryz.sizeOf3
  v3 := Tryz.zeroValue3
  t9 := Tryz.underlying9
  a9 := Tryz.isAgg9
  z9 := Tryz.sizeOf9
  v9 := Tryz.zeroValue9
  t37 := Tryz.underlying104
  a37 := Tryz.isAgg104
  z37 := Tryz.sizeOf104
  v37 := Tryz.zeroValue104
  t70 := Tryz.underlying103
  a70 := Tryz.isAgg103
  z70 := Tryz.sizeOf103
  v70 := Tryz.zeroValue103
  t72 := Tryz.underlying106
  a72 := Tryz.isAgg106
  z72 := Tryz.sizeOf106
  v72 := Tryz.zeroValue106
  t127 := Tryz.underlying143
  a127 := Tryz.isAgg143
  z127 := Tryz.sizeOf143
  v127 := Tryz.zeroValue143 }
def Tryz.lays156_ren : Go.Shelf.Ren := ⟨fun | 156 => 95 | 165 => 116 | 166 => 51 | 169 => 56 | 240 => 93 | 241 => 138 | 276 => 114 | 277 => 155 | n => n, fun | 31 => 24 | 9 => 9 | 3 => 3 | 4 => 4 | 0 => 0 | 20 => 20 | 72 => 106 | 76 => 109 | 70 => 103 | 37 => 104 | 75 => 108 | 127 => 143 | 164 => 160 | 5 => 5 | 80 => 115 | n => n, fun | n => n⟩
theorem Tryz.lays156 : Go.Proofs.Lays.n156 Tryz.prog Tryz.lays156_ren := {
  mixed := by kernel_rfl
  f156 := Tryz.func95.trans (congrArg some (by kernel_rfl))
  f165 := Tryz.func116.trans (congrArg some (by kernel_rfl))
  f166 := Tryz.func51.trans (congrArg some (by kernel_rfl))
  f169 := Tryz.func56.trans (congrArg some (by kernel_rfl))
  f240 := Tryz.func93.trans (congrArg some (by kernel_rfl))
  f241 := Tryz.func138.trans (congrArg some (by kernel_rfl))
  f276 := Tryz.func114.trans (congrArg some (by kernel_rfl))
  f277 := Tryz.func155.trans (congrArg some (by kernel_rfl))
  t0 := Tryz.underlying0
  a0 := Tryz.isAgg0
  z0 := Tryz.sizeOf0
  v0 := Tryz.zeroValue0
  t3 := Tryz.underlying3
  a3 := Tryz.isAgg3
  z3 := Tryz.sizeOf3
  v3 := Tryz.zeroValue3
  t4 := Tryz.underlying4
  a4 := Tryz.isAgg4
  z4 := Tryz.sizeOf4
  v4 := Tryz.zeroValue4
  t9 := Tryz.underlying9
  a9 := Tryz.isAgg9
  z9 := Tryz.sizeOf9
  v9 := Tryz.zeroValue9
  t20 := Tryz.underlying20
  a20 := Tryz.isAgg20
  z20 := Tryz.sizeOf20
  v20 := Tryz.zeroValue20
  t31 := Tryz.underlying24
  a31 := Tryz.isAgg24
  z31 := Tryz.sizeOf24
  v31 := Tryz.zeroValue24
  t37 := Tryz.underlying104
  a37 := Tryz.isAgg104
  z37 := Tryz.sizeOf104
  v37 := Tryz.zeroValue104
  t70 := Tryz.underlying103
  a70 := Tryz.isAgg103
  z70 := Tryz.sizeOf103
  v70 := Tryz.zeroValue103
  t72 := Tryz.underlying106
  a72 := Tryz.isAgg106
  z72 := Tryz.sizeOf106
  v72 := Tryz.zeroValue106
  t75 := Tryz.underlying108
  a75 := Tryz.isAgg108
  z75 := Tryz.sizeOf108
  v75 := Tryz.zeroValue108
  t76 := Tryz.underlying109
  a76 := Tryz.isAgg109
  z76 := Tryz.sizeOf109
  v76 := Tryz.zeroValue109
  t127 := Tryz.underlying143
  a127 := Tryz.isAgg143
  z127 := Tryz.sizeOf143
  v127 := Tryz.zeroValue143
  t164 := Tryz.underlying160
  a164 := Tryz.isAgg160
  z164 := Tryz.sizeOf160
  v164 := Tryz.zeroValue160 }
end Go.Proofs
