/-
  Library functions at this seat's translation, laid by the kit's tool lay-plain; remarks struck.
-/
import Derived.Test.YtcecidfnchcagaaGreatDoorAbM
import Derived.Shelf.SlGeneric
import Derived.Shelf.SlSortCmp.WholeK
import Derived.Shelf.SlSortCmp.Whole1
import Derived.Shelf.SlLaysZ
import Derived.Shelf.SlLaysF
import Derived.Test.YtcecidfnchcagaaGreatDoorProg
set_option linter.all false
namespace Go.Proofs
open Go.Shelf
def Tryz.u4:Go.Shelf.Ren:=⟨fun | 6=>157 | 15=>192 | 14=>218 | 28=>243 | 29=>244 | 20=>269 | 21=>270 | 22=>271 | 23=>272 | 24=>273 | 25=>274 | 26=>275 | 27=>276 | 46=>308 | 47=>292 | 48=>293 | 49=>309 | 50=>310 | 57=>322 | n=>n,fun | 22=>58 | 24=>9 | 25=>48 | 3=>3 | 39=>242 | 0=>0 | 53=>283 | 55=>230 | 4=>4 | 46=>277 | 45=>276 | 50=>146 | 5=>5 | 9=>9 | 66=>307 | 70=>311 | 76=>325 | 77=>326 | n=>n,fun | n=>n⟩
theorem Tryz.My:Go.Proofs.SlLaysF.n6 Tryz.prog Tryz.u4:={
 mixed:=by kernel_rfl
 f6:=⟨Tryz.f157.name,by decide,Tryz.func157.trans (congrArg some (by kernel_rfl))⟩
 f14:=⟨Tryz.f218.name,by decide,Tryz.func218.trans (congrArg some (by kernel_rfl))⟩
 f15:=Tryz.func192.trans (congrArg some (by kernel_rfl))
 f20:=⟨Tryz.f269.name,by decide,Tryz.func269.trans (congrArg some (by kernel_rfl))⟩
 f21:=⟨Tryz.f270.name,by decide,Tryz.func270.trans (congrArg some (by kernel_rfl))⟩
 f22:=⟨Tryz.f271.name,by decide,Tryz.func271.trans (congrArg some (by kernel_rfl))⟩
 f23:=⟨Tryz.f272.name,by decide,Tryz.func272.trans (congrArg some (by kernel_rfl))⟩
 f24:=⟨Tryz.f273.name,by decide,Tryz.func273.trans (congrArg some (by kernel_rfl))⟩
 f25:=⟨Tryz.f274.name,by decide,Tryz.func274.trans (congrArg some (by kernel_rfl))⟩
 f26:=⟨Tryz.f275.name,by decide,Tryz.func275.trans (congrArg some (by kernel_rfl))⟩
 f27:=⟨Tryz.f276.name,by decide,Tryz.func276.trans (congrArg some (by kernel_rfl))⟩
 f28:=Tryz.func243.trans (congrArg some (by kernel_rfl))
 f29:=Tryz.func244.trans (congrArg some (by kernel_rfl))
 f46:=⟨Tryz.f308.name,by decide,Tryz.func308.trans (congrArg some (by kernel_rfl))⟩
 f47:=Tryz.func292.trans (congrArg some (by kernel_rfl))
 f48:=Tryz.func293.trans (congrArg some (by kernel_rfl))
 f49:=⟨Tryz.f309.name,by decide,Tryz.func309.trans (congrArg some (by kernel_rfl))⟩
 f50:=⟨Tryz.f310.name,by decide,Tryz.func310.trans (congrArg some (by kernel_rfl))⟩
 f57:=⟨Tryz.f322.name,by decide,Tryz.func322.trans (congrArg some (by kernel_rfl))⟩
 t0:=Tryz.underlying0
 a0:=Tryz.isAgg0
 z0:=Tryz.sizeOf0
 v0:=Tryz.zeroValue0
 t3:=Tryz.underlying3
 a3:=Tryz.isAgg3
 z3:=Tryz.sizeOf3
 v3:=Tryz.zeroValue3
 t4:=Tryz.underlying4
 a4:=Tryz.isAgg4
 z4:=Tryz.sizeOf4
 v4:=Tryz.zeroValue4
 t5:=Tryz.underlying5
 a5:=Tryz.isAgg5
 z5:=Tryz.sizeOf5
 v5:=Tryz.zeroValue5
 t9:=Tryz.underlying9
 a9:=Tryz.isAgg9
 z9:=Tryz.sizeOf9
 v9:=Tryz.zeroValue9
 t22:=Tryz.underlying58
 a22:=Tryz.isAgg58
 z22:=Tryz.sizeOf58
 v22:=Tryz.zeroValue58
 a24:=Tryz.isAgg9
 z24:=Tryz.sizeOf9
 t25:=Tryz.underlying48
 a25:=Tryz.isAgg48
 z25:=Tryz.sizeOf48
 v25:=Tryz.zeroValue48
 t39:=Tryz.underlying242
 a39:=Tryz.isAgg242
 z39:=Tryz.sizeOf242
 v39:=Tryz.zeroValue242
 t45:=Tryz.underlying276
 a45:=Tryz.isAgg276
 z45:=Tryz.sizeOf276
 v45:=Tryz.zeroValue276
 t46:=Tryz.underlying277
 a46:=Tryz.isAgg277
 z46:=Tryz.sizeOf277
 v46:=Tryz.zeroValue277
 t50:=Tryz.underlying146
 a50:=Tryz.isAgg146
 z50:=Tryz.sizeOf146
 v50:=Tryz.zeroValue146
 t53:=Tryz.underlying283
 a53:=Tryz.isAgg283
 z53:=Tryz.sizeOf283
 v53:=Tryz.zeroValue283
 t55:=Tryz.underlying230
 a55:=Tryz.isAgg230
 z55:=Tryz.sizeOf230
 v55:=Tryz.zeroValue230
 t66:=Tryz.underlying307
 a66:=Tryz.isAgg307
 z66:=Tryz.sizeOf307
 v66:=Tryz.zeroValue307
 t70:=Tryz.underlying311
 a70:=Tryz.isAgg311
 z70:=Tryz.sizeOf311
 v70:=Tryz.zeroValue311
 t76:=Tryz.underlying325
 a76:=Tryz.isAgg325
 z76:=Tryz.sizeOf325
 v76:=Tryz.zeroValue325
 t77:=Tryz.underlying326
 a77:=Tryz.isAgg326
 z77:=Tryz.sizeOf326
 v77:=Tryz.zeroValue326}
def Tryz.C5:Go.Shelf.Ren:=⟨fun | 7=>142 | 10=>205 | n=>n,fun | 23=>96 | 26=>9 | 3=>43 | 28=>200 | 0=>0 | 27=>199 | 33=>89 | 4=>4 | n=>n,fun | n=>n⟩
theorem Tryz.D3:Go.Proofs.SlLaysZ.n7 Tryz.prog Tryz.C5:={
 mixed:=by kernel_rfl
 f7:=⟨Tryz.f142.name,by decide,Tryz.func142.trans (congrArg some (by kernel_rfl))⟩
 f10:=⟨Tryz.f205.name,by decide,Tryz.func205.trans (congrArg some (by kernel_rfl))⟩
 t0:=Tryz.underlying0
 a0:=Tryz.isAgg0
 z0:=Tryz.sizeOf0
 v0:=Tryz.zeroValue0
 t4:=Tryz.underlying4
 a4:=Tryz.isAgg4
 z4:=Tryz.sizeOf4
 v4:=Tryz.zeroValue4
 t23:=Tryz.underlying96
 a23:=Tryz.isAgg96
 z23:=Tryz.sizeOf96
 v23:=Tryz.zeroValue96
 t26:=Tryz.underlying9
 a26:=Tryz.isAgg9
 z26:=Tryz.sizeOf9
 v26:=Tryz.zeroValue9
 t27:=Tryz.underlying199
 a27:=Tryz.isAgg199
 z27:=Tryz.sizeOf199
 v27:=Tryz.zeroValue199
 t28:=Tryz.underlying200
 a28:=Tryz.isAgg200
 z28:=Tryz.sizeOf200
 v28:=Tryz.zeroValue200
 t33:=Tryz.underlying89
 a33:=Tryz.isAgg89
 z33:=Tryz.sizeOf89
 v33:=Tryz.zeroValue89}
def Tryz.xP:Go.Shelf.Ren:=⟨fun | 8=>204 | 11=>261 | n=>n,fun | 26=>9 | 28=>200 | 24=>58 | 0=>0 | 33=>89 | 4=>4 | n=>n,fun | n=>n⟩
theorem Tryz.EV:Go.Proofs.SlLaysZ.n8 Tryz.prog Tryz.xP:={
 mixed:=by kernel_rfl
 f8:=⟨Tryz.f204.name,by decide,Tryz.func204.trans (congrArg some (by kernel_rfl))⟩
 f11:=⟨Tryz.f261.name,by decide,Tryz.func261.trans (congrArg some (by kernel_rfl))⟩
 t0:=Tryz.underlying0
 a0:=Tryz.isAgg0
 z0:=Tryz.sizeOf0
 v0:=Tryz.zeroValue0
 t24:=Tryz.underlying58
 a24:=Tryz.isAgg58
 z24:=Tryz.sizeOf58
 v24:=Tryz.zeroValue58
 t26:=Tryz.underlying9
 a26:=Tryz.isAgg9
 z26:=Tryz.sizeOf9
 v26:=Tryz.zeroValue9
 t28:=Tryz.underlying200
 a28:=Tryz.isAgg200
 z28:=Tryz.sizeOf200
 v28:=Tryz.zeroValue200
 i26:=by kernel_rfl}
end Go.Proofs
