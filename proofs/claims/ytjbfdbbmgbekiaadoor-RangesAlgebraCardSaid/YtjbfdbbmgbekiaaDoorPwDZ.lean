/- The library functions Sort and Compact of numbers, laid at this program. -/
import Derived.Shelf.Sort.Plain
import Derived.Shelf.Slices.CompactI
import Derived.Shelf.Slices.In.SortNone
import Derived.Ground.NamesProg
import Derived.Ground.Names2Prog
import Derived.Test.YtjbfdbbmgbekiaaDoorProg
set_option linter.unusedSimpArgs false
set_option linter.unusedVariables false
set_option linter.unusedSectionVars false
namespace Go.Proofs
open Go.Shelf
def Tryd.sortInts_ren : Go.Shelf.Ren := ⟨fun | 189 => 54 | 125 => 57 | 257 => 63 | 128 => 72 | 129 => 73 | 294 => 77 | 295 => 78 | 296 => 79 | 297 => 80 | 298 => 81 | 299 => 82 | 216 => 83 | 300 => 84 | 301 => 85 | 328 => 97 | 329 => 87 | 330 => 88 | 331 => 98 | 332 => 99 | 215 => 58 | 343 => 105 | n => n, fun | 28 => 40 | 3 => 3 | 46 => 84 | 0 => 0 | 51 => 103 | 53 => 105 | 4 => 4 | 183 => 96 | 182 => 95 | 131 => 100 | 5 => 5 | 9 => 9 | 218 => 113 | 222 => 117 | 228 => 128 | 229 => 129 | n => n, fun | n => n⟩
theorem Tryd.sortInts : Go.Proofs.Lays.n189 Tryd.prog Tryd.sortInts_ren := {
  mixed := by kernel_rfl
  f125 := Tryd.func57.trans (congrArg some (by kernel_rfl))
  f128 := Tryd.func72.trans (congrArg some (by kernel_rfl))
  f129 := Tryd.func73.trans (congrArg some (by kernel_rfl))
  f189 := Tryd.func54.trans (congrArg some (by kernel_rfl))
  f215 := Tryd.func58.trans (congrArg some (by kernel_rfl))
  f216 := Tryd.func83.trans (congrArg some (by kernel_rfl))
  f257 := Tryd.func63.trans (congrArg some (by kernel_rfl))
  f294 := Tryd.func77.trans (congrArg some (by kernel_rfl))
  f295 := Tryd.func78.trans (congrArg some (by kernel_rfl))
  f296 := Tryd.func79.trans (congrArg some (by kernel_rfl))
  f297 := Tryd.func80.trans (congrArg some (by kernel_rfl))
  f298 := Tryd.func81.trans (congrArg some (by kernel_rfl))
  f299 := Tryd.func82.trans (congrArg some (by kernel_rfl))
  f300 := Tryd.func84.trans (congrArg some (by kernel_rfl))
  f301 := Tryd.func85.trans (congrArg some (by kernel_rfl))
  f328 := Tryd.func97.trans (congrArg some (by kernel_rfl))
  f329 := Tryd.func87.trans (congrArg some (by kernel_rfl))
  f330 := Tryd.func88.trans (congrArg some (by kernel_rfl))
  f331 := Tryd.func98.trans (congrArg some (by kernel_rfl))
  f332 := Tryd.func99.trans (congrArg some (by kernel_rfl))
  f343 := Tryd.func105.trans (congrArg some (by kernel_rfl))
  t0 := Tryd.underlying0
  a0 := Tryd.isAgg0
  z0 := Tryd.sizeOf0
  v0 := Tryd.zeroValue0
  t3 := Tryd.underlying3
  a3 := Tryd.isAgg3
  z3 := Tryd.sizeOf3
  v3 := Tryd.zeroValue3
  t4 := Tryd.underlying4
  a4 := Tryd.isAgg4
  z4 := Tryd.sizeOf4
  v4 := Tryd.zeroValue4
  t5 := Tryd.underlying5
  a5 := Tryd.isAgg5
  z5 := Tryd.sizeOf5
  v5 := Tryd.zeroValue5
  t9 := Tryd.underlying9
  a9 := Tryd.isAgg9
  z9 := Tryd.sizeOf9
  v9 := Tryd.zeroValue9
  t28 := Tryd.underlying40
  a28 := Tryd.isAgg40
  z28 := Tryd.sizeOf40
  v28 := Tryd.zeroValue40
  t46 := Tryd.underlying84
  a46 := Tryd.isAgg84
  z46 := Tryd.sizeOf84
  v46 := Tryd.zeroValue84
  t51 := Tryd.underlying103
  a51 := Tryd.isAgg103
  z51 := Tryd.sizeOf103
  v51 := Tryd.zeroValue103
  t53 := Tryd.underlying105
  a53 := Tryd.isAgg105
  z53 := Tryd.sizeOf105
  v53 := Tryd.zeroValue105
  t131 := Tryd.underlying100
  a131 := Tryd.isAgg100
  z131 := Tryd.sizeOf100
  v131 := Tryd.zeroValue100
  t182 := Tryd.underlying95
  a182 := Tryd.isAgg95
  z182 := Tryd.sizeOf95
  v182 := Tryd.zeroValue95
  t183 := Tryd.underlying96
  a183 := Tryd.isAgg96
  z183 := Tryd.sizeOf96
  v183 := Tryd.zeroValue96
  t218 := Tryd.underlying113
  a218 := Tryd.isAgg113
  z218 := Tryd.sizeOf113
  v218 := Tryd.zeroValue113
  t222 := Tryd.underlying117
  a222 := Tryd.isAgg117
  z222 := Tryd.sizeOf117
  v222 := Tryd.zeroValue117
  t228 := Tryd.underlying128
  a228 := Tryd.isAgg128
  z228 := Tryd.sizeOf128
  v228 := Tryd.zeroValue128
  t229 := Tryd.underlying129
  a229 := Tryd.isAgg129
  z229 := Tryd.sizeOf129
  v229 := Tryd.zeroValue129 }
def Tryd.compactInts_ren : Go.Shelf.Ren := ⟨fun | 20 => 55 | n => n, fun | 22 => 40 | 3 => 3 | 4 => 4 | 0 => 0 | n => n, fun | n => n⟩
theorem Tryd.compactInts : Go.Proofs.Lays2.n20 Tryd.prog Tryd.compactInts_ren := {
  mixed := by kernel_rfl
  f20 := Tryd.func55.trans (congrArg some (by kernel_rfl))
  t0 := Tryd.underlying0
  a0 := Tryd.isAgg0
  z0 := Tryd.sizeOf0
  v0 := Tryd.zeroValue0
  t3 := Tryd.underlying3
  a3 := Tryd.isAgg3
  z3 := Tryd.sizeOf3
  v3 := Tryd.zeroValue3
  t4 := Tryd.underlying4
  a4 := Tryd.isAgg4
  z4 := Tryd.sizeOf4
  v4 := Tryd.zeroValue4
  t22 := Tryd.underlying40
  a22 := Tryd.isAgg40
  z22 := Tryd.sizeOf40
  v22 := Tryd.zeroValue40
  i3 := by kernel_rfl }
end Go.Proofs
