/-
  The library's sort at this seat's translation, laid by the kit's tool lay-plain; remarks struck.
-/
import Derived.Shelf.SlGeneric
import Derived.Shelf.SlSortCmp.WholeK
import Derived.Test.YtnbnldnfkikakaaGreatDoorProg
set_option linter.all false
namespace Go.Proofs
open Go.Shelf
def Tryz.sort41_ren : Go.Shelf.Ren := ⟨fun | 6 => 41 | 15 => 93 | 14 => 92 | 28 => 148 | 29 => 149 | 20 => 140 | 21 => 141 | 22 => 142 | 23 => 143 | 24 => 144 | 25 => 145 | 26 => 146 | 27 => 147 | 46 => 182 | 47 => 183 | 48 => 184 | 49 => 185 | 50 => 186 | 57 => 203 | n => n, fun | 22 => 81 | 24 => 47 | 25 => 88 | 3 => 3 | 39 => 136 | 0 => 0 | 53 => 184 | 55 => 166 | 4 => 4 | 46 => 178 | 45 => 177 | 50 => 116 | 5 => 5 | 9 => 9 | 66 => 208 | 70 => 212 | 76 => 220 | 77 => 221 | n => n, fun | n => n⟩
theorem Tryz.sort41 : Go.Proofs.SlLaysF0.n6 Tryz.prog Tryz.sort41_ren := {
 mixed := by kernel_rfl
 f6 := ⟨Tryz.f41.name, by decide, Tryz.func41.trans (congrArg some (by kernel_rfl))⟩
 f14 := ⟨Tryz.f92.name, by decide, Tryz.func92.trans (congrArg some (by kernel_rfl))⟩
 f15 := Tryz.func93.trans (congrArg some (by kernel_rfl))
 f20 := ⟨Tryz.f140.name, by decide, Tryz.func140.trans (congrArg some (by kernel_rfl))⟩
 f21 := ⟨Tryz.f141.name, by decide, Tryz.func141.trans (congrArg some (by kernel_rfl))⟩
 f22 := ⟨Tryz.f142.name, by decide, Tryz.func142.trans (congrArg some (by kernel_rfl))⟩
 f23 := ⟨Tryz.f143.name, by decide, Tryz.func143.trans (congrArg some (by kernel_rfl))⟩
 f24 := ⟨Tryz.f144.name, by decide, Tryz.func144.trans (congrArg some (by kernel_rfl))⟩
 f25 := ⟨Tryz.f145.name, by decide, Tryz.func145.trans (congrArg some (by kernel_rfl))⟩
 f26 := ⟨Tryz.f146.name, by decide, Tryz.func146.trans (congrArg some (by kernel_rfl))⟩
 f27 := ⟨Tryz.f147.name, by decide, Tryz.func147.trans (congrArg some (by kernel_rfl))⟩
 f28 := Tryz.func148.trans (congrArg some (by kernel_rfl))
 f29 := Tryz.func149.trans (congrArg some (by kernel_rfl))
 f46 := ⟨Tryz.f182.name, by decide, Tryz.func182.trans (congrArg some (by kernel_rfl))⟩
 f47 := Tryz.func183.trans (congrArg some (by kernel_rfl))
 f48 := Tryz.func184.trans (congrArg some (by kernel_rfl))
 f49 := ⟨Tryz.f185.name, by decide, Tryz.func185.trans (congrArg some (by kernel_rfl))⟩
 f50 := ⟨Tryz.f186.name, by decide, Tryz.func186.trans (congrArg some (by kernel_rfl))⟩
 f57 := ⟨Tryz.f203.name, by decide, Tryz.func203.trans (congrArg some (by kernel_rfl))⟩
 t0 := Tryz.underlying0
 a0 := Tryz.isAgg0
 z0 := Tryz.sizeOf0
 v0 := Tryz.zeroValue0
 t3 := Tryz.underlying3
 a3 := Tryz.isAgg3
 z3 := Tryz.sizeOf3
 v3 := Tryz.zeroValue3
 t4 := Tryz.underlying4
 a4 := Tryz.isAgg4
 z4 := Tryz.sizeOf4
 v4 := Tryz.zeroValue4
 t5 := Tryz.underlying5
 a5 := Tryz.isAgg5
 z5 := Tryz.sizeOf5
 v5 := Tryz.zeroValue5
 t9 := Tryz.underlying9
 a9 := Tryz.isAgg9
 z9 := Tryz.sizeOf9
 v9 := Tryz.zeroValue9
 t22 := Tryz.underlying81
 a22 := Tryz.isAgg81
 z22 := Tryz.sizeOf81
 v22 := Tryz.zeroValue81
 t25 := Tryz.underlying88
 a25 := Tryz.isAgg88
 z25 := Tryz.sizeOf88
 v25 := Tryz.zeroValue88
 t39 := Tryz.underlying136
 a39 := Tryz.isAgg136
 z39 := Tryz.sizeOf136
 v39 := Tryz.zeroValue136
 t45 := Tryz.underlying177
 a45 := Tryz.isAgg177
 z45 := Tryz.sizeOf177
 v45 := Tryz.zeroValue177
 t46 := Tryz.underlying178
 a46 := Tryz.isAgg178
 z46 := Tryz.sizeOf178
 v46 := Tryz.zeroValue178
 t50 := Tryz.underlying116
 a50 := Tryz.isAgg116
 z50 := Tryz.sizeOf116
 v50 := Tryz.zeroValue116
 t53 := Tryz.underlying184
 a53 := Tryz.isAgg184
 z53 := Tryz.sizeOf184
 v53 := Tryz.zeroValue184
 t55 := Tryz.underlying166
 a55 := Tryz.isAgg166
 z55 := Tryz.sizeOf166
 v55 := Tryz.zeroValue166
 t66 := Tryz.underlying208
 a66 := Tryz.isAgg208
 z66 := Tryz.sizeOf208
 v66 := Tryz.zeroValue208
 t70 := Tryz.underlying212
 a70 := Tryz.isAgg212
 z70 := Tryz.sizeOf212
 v70 := Tryz.zeroValue212
 t76 := Tryz.underlying220
 a76 := Tryz.isAgg220
 z76 := Tryz.sizeOf220
 v76 := Tryz.zeroValue220
 t77 := Tryz.underlying221
 a77 := Tryz.isAgg221
 z77 := Tryz.sizeOf221
 v77 := Tryz.zeroValue221 }
end Go.Proofs
