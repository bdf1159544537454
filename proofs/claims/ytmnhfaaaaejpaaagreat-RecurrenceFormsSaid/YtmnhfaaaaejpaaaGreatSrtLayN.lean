/-
  The kit's contracts of the library's functions, laid over this program (printed by laysort.py out of the kit's own tool).
-/
import Derived.Shelf.Sort.Plain
import Derived.Shelf.Slices.CompactI
import Derived.Test.YtmnhfaaaaejpaaaGreatProg
namespace Go.Proofs.YtmnhfaaaaejpaaaGreat
open Go.Shelf
def layI_ren : Go.Shelf.Ren := ⟨fun | 189 => 46 | 125 => 49 | 257 => 63 | 128 => 72 | 129 => 73 | 294 => 89 | 295 => 90 | 296 => 91 | 297 => 92 | 298 => 93 | 299 => 94 | 216 => 95 | 300 => 96 | 301 => 97 | 328 => 105 | 329 => 99 | 330 => 100 | 331 => 106 | 332 => 107 | 215 => 50 | 343 => 110 | n => n, fun | 28 => 22 | 3 => 3 | 46 => 69 | 0 => 0 | 51 => 93 | 53 => 95 | 4 => 4 | 183 => 86 | 182 => 85 | 131 => 90 | 5 => 5 | 9 => 9 | 218 => 105 | 222 => 109 | 228 => 115 | 229 => 63 | n => n, fun | n => n⟩
theorem layI : Go.Proofs.Lays.n189 Tryz.prog layI_ren := {
  mixed := by kernel_rfl
  f125 := Tryz.func49.trans (congrArg some (by kernel_rfl))
  f128 := Tryz.func72.trans (congrArg some (by kernel_rfl))
  f129 := Tryz.func73.trans (congrArg some (by kernel_rfl))
  f189 := Tryz.func46.trans (congrArg some (by kernel_rfl))
  f215 := Tryz.func50.trans (congrArg some (by kernel_rfl))
  f216 := Tryz.func95.trans (congrArg some (by kernel_rfl))
  f257 := Tryz.func63.trans (congrArg some (by kernel_rfl))
  f294 := Tryz.func89.trans (congrArg some (by kernel_rfl))
  f295 := Tryz.func90.trans (congrArg some (by kernel_rfl))
  f296 := Tryz.func91.trans (congrArg some (by kernel_rfl))
  f297 := Tryz.func92.trans (congrArg some (by kernel_rfl))
  f298 := Tryz.func93.trans (congrArg some (by kernel_rfl))
  f299 := Tryz.func94.trans (congrArg some (by kernel_rfl))
  f300 := Tryz.func96.trans (congrArg some (by kernel_rfl))
  f301 := Tryz.func97.trans (congrArg some (by kernel_rfl))
  f328 := Tryz.func105.trans (congrArg some (by kernel_rfl))
  f329 := Tryz.func99.trans (congrArg some (by kernel_rfl))
  f330 := Tryz.func100.trans (congrArg some (by kernel_rfl))
  f331 := Tryz.func106.trans (congrArg some (by kernel_rfl))
  f332 := Tryz.func107.trans (congrArg some (by kernel_rfl))
  f343 := Tryz.func110.trans (congrArg some (by kernel_rfl))
  t0 := Tryz.underlying0
  a0 := Tryz.isAgg0
  z0 := Tryz.sizeOf0
  v0 := Tryz.zeroValue0
  t3 := Tryz.underlying3
  a3 := Tryz.isAgg3
  z3 := Tryz.sizeOf3
  v3 := Tryz.zeroValue3
  t4 := Tryz.underlying4
  a4 := Tryz.isAgg4
  z4 := Tryz.sizeOf4
  v4 := Tryz.zeroValue4
  t5 := Tryz.underlying5
  a5 := Tryz.isAgg5
  z5 := Tryz.sizeOf5
  v5 := Tryz.zeroValue5
  t9 := Tryz.underlying9
  a9 := Tryz.isAgg9
  z9 := Tryz.sizeOf9
  v9 := Tryz.zeroValue9
  t28 := Tryz.underlying22
  a28 := Tryz.isAgg22
  z28 := Tryz.sizeOf22
  v28 := Tryz.zeroValue22
  t46 := Tryz.underlying69
  a46 := Tryz.isAgg69
  z46 := Tryz.sizeOf69
  v46 := Tryz.zeroValue69
  t51 := Tryz.underlying93
  a51 := Tryz.isAgg93
  z51 := Tryz.sizeOf93
  v51 := Tryz.zeroValue93
  t53 := Tryz.underlying95
  a53 := Tryz.isAgg95
  z53 := Tryz.sizeOf95
  v53 := Tryz.zeroValue95
  t131 := Tryz.underlying90
  a131 := Tryz.isAgg90
  z131 := Tryz.sizeOf90
  v131 := Tryz.zeroValue90
  t182 := Tryz.underlying85
  a182 := Tryz.isAgg85
  z182 := Tryz.sizeOf85
  v182 := Tryz.zeroValue85
  t183 := Tryz.underlying86
  a183 := Tryz.isAgg86
  z183 := Tryz.sizeOf86
  v183 := Tryz.zeroValue86
  t218 := Tryz.underlying105
  a218 := Tryz.isAgg105
  z218 := Tryz.sizeOf105
  v218 := Tryz.zeroValue105
  t222 := Tryz.underlying109
  a222 := Tryz.isAgg109
  z222 := Tryz.sizeOf109
  v222 := Tryz.zeroValue109
  t228 := Tryz.underlying115
  a228 := Tryz.isAgg115
  z228 := Tryz.sizeOf115
  v228 := Tryz.zeroValue115
  t229 := Tryz.underlying63
  a229 := Tryz.isAgg63
  z229 := Tryz.sizeOf63
  v229 := Tryz.zeroValue63 }
def layC_ren : Go.Shelf.Ren := ⟨fun | 20 => 47 | n => n, fun | 22 => 22 | 3 => 3 | 4 => 4 | 0 => 0 | n => n, fun | n => n⟩
theorem layC : Go.Proofs.Lays2.n20 Tryz.prog layC_ren := {
  mixed := by kernel_rfl
  f20 := Tryz.func47.trans (congrArg some (by kernel_rfl))
  t0 := Tryz.underlying0
  a0 := Tryz.isAgg0
  z0 := Tryz.sizeOf0
  v0 := Tryz.zeroValue0
  t3 := Tryz.underlying3
  a3 := Tryz.isAgg3
  z3 := Tryz.sizeOf3
  v3 := Tryz.zeroValue3
  t4 := Tryz.underlying4
  a4 := Tryz.isAgg4
  z4 := Tryz.sizeOf4
  v4 := Tryz.zeroValue4
  t22 := Tryz.underlying22
  a22 := Tryz.isAgg22
  z22 := Tryz.sizeOf22
  v22 := Tryz.zeroValue22
  i3 := by kernel_rfl }

end Go.Proofs.YtmnhfaaaaejpaaaGreat
