/-
  Seat 23: slices.Sort of numbers, and all that it calls, lies in this program as it lies in the library's contract.
-/
import Derived.Shelf.Sort.Plain
import Derived.Test.YtkbablmhgnpmmaaDoorProg
namespace Go.Proofs
open Go.Shelf
def Tryd.lays189_ren : Go.Shelf.Ren := ⟨fun | 189 => 42 | 125 => 54 | 257 => 53 | 128 => 67 | 129 => 68 | 294 => 59 | 295 => 60 | 296 => 61 | 297 => 62 | 298 => 63 | 299 => 64 | 216 => 50 | 300 => 65 | 301 => 66 | 328 => 69 | 329 => 70 | 330 => 71 | 331 => 72 | 332 => 73 | 215 => 58 | 343 => 74 | n => n, fun | 28 => 27 | 3 => 3 | 46 => 116 | 0 => 0 | 51 => 145 | 53 => 147 | 4 => 4 | 183 => 139 | 182 => 138 | 131 => 96 | 5 => 5 | 9 => 9 | 218 => 148 | 222 => 152 | 228 => 154 | 229 => 155 | n => n, fun | n => n⟩
theorem Tryd.lays189 : Go.Proofs.Lays.n189 Tryd.prog Tryd.lays189_ren := {
  mixed := by kernel_rfl
  f125 := Tryd.func54.trans (congrArg some (by kernel_rfl))
  f128 := Tryd.func67.trans (congrArg some (by kernel_rfl))
  f129 := Tryd.func68.trans (congrArg some (by kernel_rfl))
  f189 := Tryd.func42.trans (congrArg some (by kernel_rfl))
  f215 := Tryd.func58.trans (congrArg some (by kernel_rfl))
  f216 := Tryd.func50.trans (congrArg some (by kernel_rfl))
  f257 := Tryd.func53.trans (congrArg some (by kernel_rfl))
  f294 := Tryd.func59.trans (congrArg some (by kernel_rfl))
  f295 := Tryd.func60.trans (congrArg some (by kernel_rfl))
  f296 := Tryd.func61.trans (congrArg some (by kernel_rfl))
  f297 := Tryd.func62.trans (congrArg some (by kernel_rfl))
  f298 := Tryd.func63.trans (congrArg some (by kernel_rfl))
  f299 := Tryd.func64.trans (congrArg some (by kernel_rfl))
  f300 := Tryd.func65.trans (congrArg some (by kernel_rfl))
  f301 := Tryd.func66.trans (congrArg some (by kernel_rfl))
  f328 := Tryd.func69.trans (congrArg some (by kernel_rfl))
  f329 := Tryd.func70.trans (congrArg some (by kernel_rfl))
  f330 := Tryd.func71.trans (congrArg some (by kernel_rfl))
  f331 := Tryd.func72.trans (congrArg some (by kernel_rfl))
  f332 := Tryd.func73.trans (congrArg some (by kernel_rfl))
  f343 := Tryd.func74.trans (congrArg some (by kernel_rfl))
  t0 := Tryd.underlying0
  a0 := Tryd.isAgg0
  z0 := Tryd.sizeOf0
  v0 := Tryd.zeroValue0
  t3 := Tryd.underlying3
  a3 := Tryd.isAgg3
  z3 := Tryd.sizeOf3
  v3 := Tryd.zeroValue3
  t4 := Tryd.underlying4
  a4 := Tryd.isAgg4
  z4 := Tryd.sizeOf4
  v4 := Tryd.zeroValue4
  t5 := Tryd.underlying5
  a5 := Tryd.isAgg5
  z5 := Tryd.sizeOf5
  v5 := Tryd.zeroValue5
  t9 := Tryd.underlying9
  a9 := Tryd.isAgg9
  z9 := Tryd.sizeOf9
  v9 := Tryd.zeroValue9
  t28 := Tryd.underlying27
  a28 := Tryd.isAgg27
  z28 := Tryd.sizeOf27
  v28 := Tryd.zeroValue27
  t46 := Tryd.underlying116
  a46 := Tryd.isAgg116
  z46 := Tryd.sizeOf116
  v46 := Tryd.zeroValue116
  t51 := Tryd.underlying145
  a51 := Tryd.isAgg145
  z51 := Tryd.sizeOf145
  v51 := Tryd.zeroValue145
  t53 := Tryd.underlying147
  a53 := Tryd.isAgg147
  z53 := Tryd.sizeOf147
  v53 := Tryd.zeroValue147
  t131 := Tryd.underlying96
  a131 := Tryd.isAgg96
  z131 := Tryd.sizeOf96
  v131 := Tryd.zeroValue96
  t182 := Tryd.underlying138
  a182 := Tryd.isAgg138
  z182 := Tryd.sizeOf138
  v182 := Tryd.zeroValue138
  t183 := Tryd.underlying139
  a183 := Tryd.isAgg139
  z183 := Tryd.sizeOf139
  v183 := Tryd.zeroValue139
  t218 := Tryd.underlying148
  a218 := Tryd.isAgg148
  z218 := Tryd.sizeOf148
  v218 := Tryd.zeroValue148
  t222 := Tryd.underlying152
  a222 := Tryd.isAgg152
  z222 := Tryd.sizeOf152
  v222 := Tryd.zeroValue152
  t228 := Tryd.underlying154
  a228 := Tryd.isAgg154
  z228 := Tryd.sizeOf154
  v228 := Tryd.zeroValue154
  t229 := Tryd.underlying155
  a229 := Tryd.isAgg155
  z229 := Tryd.sizeOf155
  v229 := Tryd.zeroValue155 }
end Go.Proofs
