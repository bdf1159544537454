/-
  The kit's contract of the sort, laid over this program (printed by laysort.py out of the kit's own tool).
-/
import Derived.Shelf.SlSortCmp.WholeK
import Derived.Test.YtoklfjkanipjkaaProg
namespace Go.Proofs.Ytoklfjkanipjkaa
open Go.Shelf
def laySp_ren : Go.Shelf.Ren := ⟨fun | 6 => 76 | 15 => 99 | 14 => 98 | 28 => 118 | 29 => 119 | 20 => 110 | 21 => 111 | 22 => 112 | 23 => 113 | 24 => 114 | 25 => 115 | 26 => 116 | 27 => 117 | 46 => 129 | 47 => 130 | 48 => 131 | 49 => 132 | 50 => 133 | 57 => 137 | n => n, fun | 22 => 22 | 24 => 49 | 25 => 92 | 3 => 3 | 39 => 106 | 0 => 0 | 53 => 126 | 55 => 111 | 4 => 4 | 46 => 120 | 45 => 119 | 50 => 64 | 5 => 5 | 9 => 9 | 66 => 134 | 70 => 138 | 76 => 142 | 77 => 88 | n => n, fun | n => n⟩
theorem laySp : Go.Proofs.SlLaysF0.n6 Try.prog laySp_ren := {
  mixed := by kernel_rfl
  f6 := ⟨Try.f76.name, by decide, Try.func76.trans (congrArg some (by kernel_rfl))⟩
  f14 := ⟨Try.f98.name, by decide, Try.func98.trans (congrArg some (by kernel_rfl))⟩
  f15 := Try.func99.trans (congrArg some (by kernel_rfl))
  f20 := ⟨Try.f110.name, by decide, Try.func110.trans (congrArg some (by kernel_rfl))⟩
  f21 := ⟨Try.f111.name, by decide, Try.func111.trans (congrArg some (by kernel_rfl))⟩
  f22 := ⟨Try.f112.name, by decide, Try.func112.trans (congrArg some (by kernel_rfl))⟩
  f23 := ⟨Try.f113.name, by decide, Try.func113.trans (congrArg some (by kernel_rfl))⟩
  f24 := ⟨Try.f114.name, by decide, Try.func114.trans (congrArg some (by kernel_rfl))⟩
  f25 := ⟨Try.f115.name, by decide, Try.func115.trans (congrArg some (by kernel_rfl))⟩
  f26 := ⟨Try.f116.name, by decide, Try.func116.trans (congrArg some (by kernel_rfl))⟩
  f27 := ⟨Try.f117.name, by decide, Try.func117.trans (congrArg some (by kernel_rfl))⟩
  f28 := Try.func118.trans (congrArg some (by kernel_rfl))
  f29 := Try.func119.trans (congrArg some (by kernel_rfl))
  f46 := ⟨Try.f129.name, by decide, Try.func129.trans (congrArg some (by kernel_rfl))⟩
  f47 := Try.func130.trans (congrArg some (by kernel_rfl))
  f48 := Try.func131.trans (congrArg some (by kernel_rfl))
  f49 := ⟨Try.f132.name, by decide, Try.func132.trans (congrArg some (by kernel_rfl))⟩
  f50 := ⟨Try.f133.name, by decide, Try.func133.trans (congrArg some (by kernel_rfl))⟩
  f57 := ⟨Try.f137.name, by decide, Try.func137.trans (congrArg some (by kernel_rfl))⟩
  t0 := Try.underlying0
  a0 := Try.isAgg0
  z0 := Try.sizeOf0
  v0 := Try.zeroValue0
  t3 := Try.underlying3
  a3 := Try.isAgg3
  z3 := Try.sizeOf3
  v3 := Try.zeroValue3
  t4 := Try.underlying4
  a4 := Try.isAgg4
  z4 := Try.sizeOf4
  v4 := Try.zeroValue4
  t5 := Try.underlying5
  a5 := Try.isAgg5
  z5 := Try.sizeOf5
  v5 := Try.zeroValue5
  t9 := Try.underlying9
  a9 := Try.isAgg9
  z9 := Try.sizeOf9
  v9 := Try.zeroValue9
  t22 := Try.underlying22
  a22 := Try.isAgg22
  z22 := Try.sizeOf22
  v22 := Try.zeroValue22
  t25 := Try.underlying92
  a25 := Try.isAgg92
  z25 := Try.sizeOf92
  v25 := Try.zeroValue92
  t39 := Try.underlying106
  a39 := Try.isAgg106
  z39 := Try.sizeOf106
  v39 := Try.zeroValue106
  t45 := Try.underlying119
  a45 := Try.isAgg119
  z45 := Try.sizeOf119
  v45 := Try.zeroValue119
  t46 := Try.underlying120
  a46 := Try.isAgg120
  z46 := Try.sizeOf120
  v46 := Try.zeroValue120
  t50 := Try.underlying64
  a50 := Try.isAgg64
  z50 := Try.sizeOf64
  v50 := Try.zeroValue64
  t53 := Try.underlying126
  a53 := Try.isAgg126
  z53 := Try.sizeOf126
  v53 := Try.zeroValue126
  t55 := Try.underlying111
  a55 := Try.isAgg111
  z55 := Try.sizeOf111
  v55 := Try.zeroValue111
  t66 := Try.underlying134
  a66 := Try.isAgg134
  z66 := Try.sizeOf134
  v66 := Try.zeroValue134
  t70 := Try.underlying138
  a70 := Try.isAgg138
  z70 := Try.sizeOf138
  v70 := Try.zeroValue138
  t76 := Try.underlying142
  a76 := Try.isAgg142
  z76 := Try.sizeOf142
  v76 := Try.zeroValue142
  t77 := Try.underlying88
  a77 := Try.isAgg88
  z77 := Try.sizeOf88
  v77 := Try.zeroValue88 }

end Go.Proofs.Ytoklfjkanipjkaa
