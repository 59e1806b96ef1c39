/-
  Seat 18: slices.Sort of numbers, and all that it calls, lies in this program as it lies in the library's contract.
-/
import Derived.Shelf.Sort.Plain
import Derived.Test.YtfkmnklnnccopaaDoorProg
namespace Go.Proofs
open Go.Shelf
def Tryd.lays189_ren : Go.Shelf.Ren := ⟨fun | 189 => 48 | 125 => 54 | 257 => 53 | 128 => 64 | 129 => 65 | 294 => 55 | 295 => 56 | 296 => 57 | 297 => 58 | 298 => 59 | 299 => 60 | 216 => 61 | 300 => 62 | 301 => 63 | 328 => 66 | 329 => 67 | 330 => 68 | 331 => 69 | 332 => 70 | 215 => 71 | 343 => 72 | n => n, fun | 28 => 26 | 3 => 3 | 46 => 76 | 0 => 0 | 51 => 119 | 53 => 121 | 4 => 4 | 183 => 112 | 182 => 111 | 131 => 39 | 5 => 5 | 9 => 9 | 218 => 122 | 222 => 126 | 228 => 128 | 229 => 129 | n => n, fun | n => n⟩
theorem Tryd.lays189 : Go.Proofs.Lays.n189 Tryd.prog Tryd.lays189_ren := {
  mixed := by kernel_rfl
  f125 := Tryd.func54.trans (congrArg some (by kernel_rfl))
  f128 := Tryd.func64.trans (congrArg some (by kernel_rfl))
  f129 := Tryd.func65.trans (congrArg some (by kernel_rfl))
  f189 := Tryd.func48.trans (congrArg some (by kernel_rfl))
  f215 := Tryd.func71.trans (congrArg some (by kernel_rfl))
  f216 := Tryd.func61.trans (congrArg some (by kernel_rfl))
  f257 := Tryd.func53.trans (congrArg some (by kernel_rfl))
  f294 := Tryd.func55.trans (congrArg some (by kernel_rfl))
  f295 := Tryd.func56.trans (congrArg some (by kernel_rfl))
  f296 := Tryd.func57.trans (congrArg some (by kernel_rfl))
  f297 := Tryd.func58.trans (congrArg some (by kernel_rfl))
  f298 := Tryd.func59.trans (congrArg some (by kernel_rfl))
  f299 := Tryd.func60.trans (congrArg some (by kernel_rfl))
  f300 := Tryd.func62.trans (congrArg some (by kernel_rfl))
  f301 := Tryd.func63.trans (congrArg some (by kernel_rfl))
  f328 := Tryd.func66.trans (congrArg some (by kernel_rfl))
  f329 := Tryd.func67.trans (congrArg some (by kernel_rfl))
  f330 := Tryd.func68.trans (congrArg some (by kernel_rfl))
  f331 := Tryd.func69.trans (congrArg some (by kernel_rfl))
  f332 := Tryd.func70.trans (congrArg some (by kernel_rfl))
  f343 := Tryd.func72.trans (congrArg some (by kernel_rfl))
  t0 := Tryd.underlying0
  a0 := Tryd.isAgg0
  z0 := Tryd.sizeOf0
  v0 := Tryd.zeroValue0
  t3 := Tryd.underlying3
  a3 := Tryd.isAgg3
  z3 := Tryd.sizeOf3
  v3 := Tryd.zeroValue3
  t4 := Tryd.underlying4
  a4 := Tryd.isAgg4
  z4 := Tryd.sizeOf4
  v4 := Tryd.zeroValue4
  t5 := Tryd.underlying5
  a5 := Tryd.isAgg5
  z5 := Tryd.sizeOf5
  v5 := Tryd.zeroValue5
  t9 := Tryd.underlying9
  a9 := Tryd.isAgg9
  z9 := Tryd.sizeOf9
  v9 := Tryd.zeroValue9
  t28 := Tryd.underlying26
  a28 := Tryd.isAgg26
  z28 := Tryd.sizeOf26
  v28 := Tryd.zeroValue26
  t46 := Tryd.underlying76
  a46 := Tryd.isAgg76
  z46 := Tryd.sizeOf76
  v46 := Tryd.zeroValue76
  t51 := Tryd.underlying119
  a51 := Tryd.isAgg119
  z51 := Tryd.sizeOf119
  v51 := Tryd.zeroValue119
  t53 := Tryd.underlying121
  a53 := Tryd.isAgg121
  z53 := Tryd.sizeOf121
  v53 := Tryd.zeroValue121
  t131 := Tryd.underlying39
  a131 := Tryd.isAgg39
  z131 := Tryd.sizeOf39
  v131 := Tryd.zeroValue39
  t182 := Tryd.underlying111
  a182 := Tryd.isAgg111
  z182 := Tryd.sizeOf111
  v182 := Tryd.zeroValue111
  t183 := Tryd.underlying112
  a183 := Tryd.isAgg112
  z183 := Tryd.sizeOf112
  v183 := Tryd.zeroValue112
  t218 := Tryd.underlying122
  a218 := Tryd.isAgg122
  z218 := Tryd.sizeOf122
  v218 := Tryd.zeroValue122
  t222 := Tryd.underlying126
  a222 := Tryd.isAgg126
  z222 := Tryd.sizeOf126
  v222 := Tryd.zeroValue126
  t228 := Tryd.underlying128
  a228 := Tryd.isAgg128
  z228 := Tryd.sizeOf128
  v228 := Tryd.zeroValue128
  t229 := Tryd.underlying129
  a229 := Tryd.isAgg129
  z229 := Tryd.sizeOf129
  v229 := Tryd.zeroValue129 }
end Go.Proofs
