/-
  The kit's contracts of the library's functions, laid over this program (printed by laysort.py out of the kit's own tool).
-/
import Derived.Shelf.Sort.Plain
import Derived.Shelf.Slices.CompactI
import Derived.Shelf.Slices.Delete
import Derived.Shelf.Bits.Mul64
import Derived.Test.YtegmjohhgedakaaProg
namespace Go.Proofs.Ytegmjohhgedakaa
open Go.Shelf
def layI_ren : Go.Shelf.Ren := ⟨fun | 189 => 53 | 125 => 64 | 257 => 63 | 128 => 75 | 129 => 76 | 294 => 67 | 295 => 68 | 296 => 69 | 297 => 70 | 298 => 71 | 299 => 72 | 216 => 54 | 300 => 73 | 301 => 74 | 328 => 79 | 329 => 80 | 330 => 81 | 331 => 82 | 332 => 83 | 215 => 65 | 343 => 84 | n => n, fun | 28 => 26 | 3 => 3 | 46 => 78 | 0 => 0 | 51 => 90 | 53 => 92 | 4 => 4 | 183 => 83 | 182 => 82 | 131 => 87 | 5 => 5 | 9 => 9 | 218 => 97 | 222 => 101 | 228 => 103 | 229 => 104 | n => n, fun | n => n⟩
theorem layI : Go.Proofs.Lays.n189 Try.prog layI_ren := {
  mixed := by kernel_rfl
  f125 := Try.func64.trans (congrArg some (by kernel_rfl))
  f128 := Try.func75.trans (congrArg some (by kernel_rfl))
  f129 := Try.func76.trans (congrArg some (by kernel_rfl))
  f189 := Try.func53.trans (congrArg some (by kernel_rfl))
  f215 := Try.func65.trans (congrArg some (by kernel_rfl))
  f216 := Try.func54.trans (congrArg some (by kernel_rfl))
  f257 := Try.func63.trans (congrArg some (by kernel_rfl))
  f294 := Try.func67.trans (congrArg some (by kernel_rfl))
  f295 := Try.func68.trans (congrArg some (by kernel_rfl))
  f296 := Try.func69.trans (congrArg some (by kernel_rfl))
  f297 := Try.func70.trans (congrArg some (by kernel_rfl))
  f298 := Try.func71.trans (congrArg some (by kernel_rfl))
  f299 := Try.func72.trans (congrArg some (by kernel_rfl))
  f300 := Try.func73.trans (congrArg some (by kernel_rfl))
  f301 := Try.func74.trans (congrArg some (by kernel_rfl))
  f328 := Try.func79.trans (congrArg some (by kernel_rfl))
  f329 := Try.func80.trans (congrArg some (by kernel_rfl))
  f330 := Try.func81.trans (congrArg some (by kernel_rfl))
  f331 := Try.func82.trans (congrArg some (by kernel_rfl))
  f332 := Try.func83.trans (congrArg some (by kernel_rfl))
  f343 := Try.func84.trans (congrArg some (by kernel_rfl))
  t0 := Try.underlying0
  a0 := Try.isAgg0
  z0 := Try.sizeOf0
  v0 := Try.zeroValue0
  t3 := Try.underlying3
  a3 := Try.isAgg3
  z3 := Try.sizeOf3
  v3 := Try.zeroValue3
  t4 := Try.underlying4
  a4 := Try.isAgg4
  z4 := Try.sizeOf4
  v4 := Try.zeroValue4
  t5 := Try.underlying5
  a5 := Try.isAgg5
  z5 := Try.sizeOf5
  v5 := Try.zeroValue5
  t9 := Try.underlying9
  a9 := Try.isAgg9
  z9 := Try.sizeOf9
  v9 := Try.zeroValue9
  t28 := Try.underlying26
  a28 := Try.isAgg26
  z28 := Try.sizeOf26
  v28 := Try.zeroValue26
  t46 := Try.underlying78
  a46 := Try.isAgg78
  z46 := Try.sizeOf78
  v46 := Try.zeroValue78
  t51 := Try.underlying90
  a51 := Try.isAgg90
  z51 := Try.sizeOf90
  v51 := Try.zeroValue90
  t53 := Try.underlying92
  a53 := Try.isAgg92
  z53 := Try.sizeOf92
  v53 := Try.zeroValue92
  t131 := Try.underlying87
  a131 := Try.isAgg87
  z131 := Try.sizeOf87
  v131 := Try.zeroValue87
  t182 := Try.underlying82
  a182 := Try.isAgg82
  z182 := Try.sizeOf82
  v182 := Try.zeroValue82
  t183 := Try.underlying83
  a183 := Try.isAgg83
  z183 := Try.sizeOf83
  v183 := Try.zeroValue83
  t218 := Try.underlying97
  a218 := Try.isAgg97
  z218 := Try.sizeOf97
  v218 := Try.zeroValue97
  t222 := Try.underlying101
  a222 := Try.isAgg101
  z222 := Try.sizeOf101
  v222 := Try.zeroValue101
  t228 := Try.underlying103
  a228 := Try.isAgg103
  z228 := Try.sizeOf103
  v228 := Try.zeroValue103
  t229 := Try.underlying104
  a229 := Try.isAgg104
  z229 := Try.sizeOf104
  v229 := Try.zeroValue104 }
def layC_ren : Go.Shelf.Ren := ⟨fun | 20 => 38 | n => n, fun | 22 => 26 | 3 => 3 | 4 => 4 | 0 => 0 | n => n, fun | n => n⟩
theorem layC : Go.Proofs.Lays2.n20 Try.prog layC_ren := {
  mixed := by kernel_rfl
  f20 := Try.func38.trans (congrArg some (by kernel_rfl))
  t0 := Try.underlying0
  a0 := Try.isAgg0
  z0 := Try.sizeOf0
  v0 := Try.zeroValue0
  t3 := Try.underlying3
  a3 := Try.isAgg3
  z3 := Try.sizeOf3
  v3 := Try.zeroValue3
  t4 := Try.underlying4
  a4 := Try.isAgg4
  z4 := Try.sizeOf4
  v4 := Try.zeroValue4
  t22 := Try.underlying26
  a22 := Try.isAgg26
  z22 := Try.sizeOf26
  v22 := Try.zeroValue26
  i3 := by kernel_rfl }
def layD_ren : Go.Shelf.Ren := ⟨fun | 23 => 41 | n => n, fun | 22 => 26 | 3 => 3 | 4 => 4 | 0 => 0 | n => n, fun | n => n⟩
theorem layD : Go.Proofs.Lays2.n23 Try.prog layD_ren := {
  mixed := by kernel_rfl
  f23 := Try.func41.trans (congrArg some (by kernel_rfl))
  t0 := Try.underlying0
  a0 := Try.isAgg0
  z0 := Try.sizeOf0
  v0 := Try.zeroValue0
  t3 := Try.underlying3
  a3 := Try.isAgg3
  z3 := Try.sizeOf3
  v3 := Try.zeroValue3
  t4 := Try.underlying4
  a4 := Try.isAgg4
  z4 := Try.sizeOf4
  v4 := Try.zeroValue4
  t22 := Try.underlying26
  a22 := Try.isAgg26
  z22 := Try.sizeOf26
  v22 := Try.zeroValue26
  i3 := by kernel_rfl }
def layM_ren : Go.Shelf.Ren := ⟨fun | 264 => 78 | n => n, fun | 53 => 92 | 46 => 78 | n => n, fun | n => n⟩
theorem layM : Go.Proofs.Lays.n264 Try.prog layM_ren := {
  mixed := by kernel_rfl
  f264 := Try.func78.trans (congrArg some (by kernel_rfl))
  t46 := Try.underlying78
  a46 := Try.isAgg78
  z46 := Try.sizeOf78
  v46 := Try.zeroValue78
  t53 := Try.underlying92
  a53 := Try.isAgg92
  z53 := Try.sizeOf92
  v53 := Try.zeroValue92 }

end Go.Proofs.Ytegmjohhgedakaa
