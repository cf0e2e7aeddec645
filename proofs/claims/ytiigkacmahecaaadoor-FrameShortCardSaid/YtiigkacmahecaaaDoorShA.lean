/-
  Contracts of the library, laid at this program.
-/
import Derived.Shelf.LaysM
import Derived.Shelf.Strings.SlTrimAscii
import Derived.Test.YtiigkacmahecaaaDoorProg
namespace Go.Proofs.YtiigkacmahecaaaDoor
open Go.Shelf
def lays160_ren : Go.Shelf.Ren := ⟨fun | 160 => 47 | 232 => 56 | 231 => 55 | 227 => 57 | 234 => 59 | 233 => 58 | 236 => 61 | 235 => 60 | 228 => 70 | 271 => 73 | 151 => 72 | 197 => 71 | 120 => 81 | 152 => 80 | 260 => 79 | 137 => 87 | 119 => 88 | 224 => 89 | 225 => 90 | 217 => 96 | 266 => 99 | n => n, fun | 9 => 9 | 4 => 4 | 3 => 3 | 5 => 5 | 117 => 97 | 116 => 96 | 0 => 0 | 124 => 100 | 21 => 21 | 105 => 104 | 46 => 119 | 119 => 118 | 139 => 122 | 138 => 121 | n => n, fun | 3 => 0 | 4 => 1 | n => n⟩
theorem lays160 : Go.Proofs.Lays.n160 Tryd.prog lays160_ren := {
  mixed := by kernel_rfl
  f119 := Tryd.func88.trans (congrArg some (by kernel_rfl))
  f120 := Tryd.func81.trans (congrArg some (by kernel_rfl))
  f137 := Tryd.func87.trans (congrArg some (by kernel_rfl))
  f151 := Tryd.func72.trans (congrArg some (by kernel_rfl))
  f152 := Tryd.func80.trans (congrArg some (by kernel_rfl))
  f160 := Tryd.func47.trans (congrArg some (by kernel_rfl))
  f197 := Tryd.func71.trans (congrArg some (by kernel_rfl))
  f217 := Tryd.func96.trans (congrArg some (by kernel_rfl))
  f224 := Tryd.func89.trans (congrArg some (by kernel_rfl))
  f225 := Tryd.func90.trans (congrArg some (by kernel_rfl))
  f227 := Tryd.func57.trans (congrArg some (by kernel_rfl))
  f228 := Tryd.func70.trans (congrArg some (by kernel_rfl))
  f231 := Tryd.func55.trans (congrArg some (by kernel_rfl))
  f232 := Tryd.func56.trans (congrArg some (by kernel_rfl))
  f233 := Tryd.func58.trans (congrArg some (by kernel_rfl))
  f234 := Tryd.func59.trans (congrArg some (by kernel_rfl))
  f235 := Tryd.func60.trans (congrArg some (by kernel_rfl))
  f236 := Tryd.func61.trans (congrArg some (by kernel_rfl))
  f260 := Tryd.func79.trans (congrArg some (by kernel_rfl))
  f266 := Tryd.func99.trans (congrArg some (by kernel_rfl))
  f271 := Tryd.func73.trans (congrArg some (by kernel_rfl))
  t0 := Tryd.underlying0
  a0 := Tryd.isAgg0
  z0 := Tryd.sizeOf0
  v0 := Tryd.zeroValue0
  t3 := Tryd.underlying3
  a3 := Tryd.isAgg3
  z3 := Tryd.sizeOf3
  v3 := Tryd.zeroValue3
  t4 := Tryd.underlying4
  a4 := Tryd.isAgg4
  z4 := Tryd.sizeOf4
  v4 := Tryd.zeroValue4
  t5 := Tryd.underlying5
  a5 := Tryd.isAgg5
  z5 := Tryd.sizeOf5
  v5 := Tryd.zeroValue5
  t9 := Tryd.underlying9
  a9 := Tryd.isAgg9
  z9 := Tryd.sizeOf9
  v9 := Tryd.zeroValue9
  t21 := Tryd.underlying21
  a21 := Tryd.isAgg21
  z21 := Tryd.sizeOf21
  v21 := Tryd.zeroValue21
  t46 := Tryd.underlying119
  a46 := Tryd.isAgg119
  z46 := Tryd.sizeOf119
  v46 := Tryd.zeroValue119
  t105 := Tryd.underlying104
  a105 := Tryd.isAgg104
  z105 := Tryd.sizeOf104
  v105 := Tryd.zeroValue104
  t116 := Tryd.underlying96
  a116 := Tryd.isAgg96
  z116 := Tryd.sizeOf96
  t117 := Tryd.underlying97
  a117 := Tryd.isAgg97
  z117 := Tryd.sizeOf97
  v117 := Tryd.zeroValue97
  t119 := Tryd.underlying118
  a119 := Tryd.isAgg118
  z119 := Tryd.sizeOf118
  t124 := Tryd.underlying100
  a124 := Tryd.isAgg100
  z124 := Tryd.sizeOf100
  v124 := Tryd.zeroValue100
  t138 := Tryd.underlying121
  a138 := Tryd.isAgg121
  z138 := Tryd.sizeOf121
  v138 := Tryd.zeroValue121
  t139 := Tryd.underlying122
  a139 := Tryd.isAgg122
  z139 := Tryd.sizeOf122
  v139 := Tryd.zeroValue122
  g3 := by kernel_rfl
  g4 := by kernel_rfl }
end Go.Proofs.YtiigkacmahecaaaDoor
