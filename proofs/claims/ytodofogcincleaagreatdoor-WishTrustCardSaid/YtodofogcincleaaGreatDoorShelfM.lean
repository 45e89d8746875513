/-
  One text.
-/
import Derived.Test.YtodofogcincleaaGreatDoorAbM
import Derived.Shelf.Strings.Builder1
import Derived.Shelf.Strings.Builder2
import Derived.Shelf.Strings.OnBuilder
import Derived.Shelf.Small.Bits
import Derived.Shelf.Small.Strs
import Derived.Shelf.Small.Wraps
import Derived.Shelf.Strings.BuilderF
import Derived.Shelf.Strings.BuilderK
import Derived.Shelf.Strings.Builder2Cap
import Derived.Shelf.Strconv.Itoa0
import Derived.Shelf.Strings.Search1
import Derived.Shelf.Strings.LastIndex
import Derived.Shelf.Strings.Prefix
import Derived.Shelf.Strings.BuilderCap
import Derived.Shelf.Slices.Turned
import Derived.Ground.Names2Prog
import Derived.Shelf.Slices.SearchI
import Derived.Ground.PaProg
import Derived.Shelf.Path.Small
import Derived.Test.YtodofogcincleaaGreatDoorProg
set_option linter.all false
namespace Go.Proofs
open Go.Shelf
def Tryz.HJ:Go.Shelf.Ren:=⟨fun|106=>244|213=>258|265=>265|n=>n,fun|9=>9|3=>3|n=>n,fun|n=>n⟩
theorem Tryz.SL:Go.Proofs.Lays.n106 Tryz.prog Tryz.HJ:={
 mixed:=by kernel_rfl
 f106:=Tryz.func244.trans (congrArg some (by kernel_rfl))
 f213:=Tryz.func258.trans (congrArg some (by kernel_rfl))
 f265:=Tryz.func265.trans (congrArg some (by kernel_rfl))
 t3:=Tryz.underlying3
 a3:=Tryz.isAgg3
 z3:=Tryz.sizeOf3
 v3:=Tryz.zeroValue3
 t9:=Tryz.underlying9
 a9:=Tryz.isAgg9
 z9:=Tryz.sizeOf9
 v9:=Tryz.zeroValue9}
open Go.RowKit in
theorem Tryz.strings_Compare(a b:ByteArray)(w:World) :
 Calls Tryz.prog 244 #[.string a,.string b] w λe w' =>e= .returned (.int .i64 (Lib.compareBytes a.data.toList b.data.toList))/\w' =w:=Any.strings_Compare Tryz.SL a b w
def Tryz.HM:Go.Shelf.Ren:=⟨fun|137=>242|217=>256|266=>264|n=>n,fun|9=>9|5=>5|3=>3|n=>n,fun|n=>n⟩
theorem Tryz.SM:Go.Proofs.Lays.n137 Tryz.prog Tryz.HM:={
 mixed:=by kernel_rfl
 f137:=Tryz.func242.trans (congrArg some (by kernel_rfl))
 f217:=Tryz.func256.trans (congrArg some (by kernel_rfl))
 f266:=Tryz.func264.trans (congrArg some (by kernel_rfl))
 t3:=Tryz.underlying3
 a3:=Tryz.isAgg3
 z3:=Tryz.sizeOf3
 v3:=Tryz.zeroValue3
 t5:=Tryz.underlying5
 a5:=Tryz.isAgg5
 z5:=Tryz.sizeOf5
 v5:=Tryz.zeroValue5
 t9:=Tryz.underlying9
 a9:=Tryz.isAgg9
 z9:=Tryz.sizeOf9
 v9:=Tryz.zeroValue9}
open Go.RowKit in
theorem Tryz.strings_IndexByte(s:ByteArray)(c:Int)(w:World) :
 Calls Tryz.prog 242 #[.string s,.int .u8 c] w λe w' =>e= .returned (.int .i64 (Lib.indexByte s.data.toList c.toNat.toUInt8))/\w' =w:=Any.strings_IndexByte Tryz.SM s c w
def Tryz.HO:Go.Shelf.Ren:=⟨fun|149=>241|222=>255|n=>n,fun|9=>9|5=>5|3=>3|4=>4|n=>n,fun|n=>n⟩
theorem Tryz.SN:Go.Proofs.Lays.n149 Tryz.prog Tryz.HO:={
 mixed:=by kernel_rfl
 f149:=Tryz.func241.trans (congrArg some (by kernel_rfl))
 f222:=Tryz.func255.trans (congrArg some (by kernel_rfl))
 t3:=Tryz.underlying3
 a3:=Tryz.isAgg3
 z3:=Tryz.sizeOf3
 v3:=Tryz.zeroValue3
 t4:=Tryz.underlying4
 a4:=Tryz.isAgg4
 z4:=Tryz.sizeOf4
 v4:=Tryz.zeroValue4
 t5:=Tryz.underlying5
 a5:=Tryz.isAgg5
 z5:=Tryz.sizeOf5
 v5:=Tryz.zeroValue5
 t9:=Tryz.underlying9
 a9:=Tryz.isAgg9
 z9:=Tryz.sizeOf9
 v9:=Tryz.zeroValue9}
open Go.RowKit Go.Lib in
theorem Tryz.strings_LastIndexByte(s:ByteArray)(c:Int)(hs:s.size<4611686018427387904)(w:World) :
 Calls Tryz.prog 241 #[.string s,.int .u8 c] w λe w' =>e= .returned (.int .i64 (Lib.lastIndexByte s c))/\w' =w:=Any.strings_LastIndexByte Tryz.SN s c hs w
def Tryz.KT:Go.Shelf.Ren:=⟨fun|99=>95|206=>158|n=>n,fun|9=>9|4=>4|3=>3|n=>n,fun|n=>n⟩
theorem Tryz.Uc:Go.Proofs.Lays.n99 Tryz.prog Tryz.KT:={
 mixed:=by kernel_rfl
 f99:=Tryz.func95.trans (congrArg some (by kernel_rfl))
 f206:=Tryz.func158.trans (congrArg some (by kernel_rfl))
 t3:=Tryz.underlying3
 a3:=Tryz.isAgg3
 z3:=Tryz.sizeOf3
 v3:=Tryz.zeroValue3
 t4:=Tryz.underlying4
 a4:=Tryz.isAgg4
 z4:=Tryz.sizeOf4
 v4:=Tryz.zeroValue4
 t9:=Tryz.underlying9
 a9:=Tryz.isAgg9
 z9:=Tryz.sizeOf9
 v9:=Tryz.zeroValue9}
open Go.RowKit Go.Lib in
theorem Tryz.strings_HasPrefix(s p:ByteArray)(w:World) :
 Calls Tryz.prog 95 #[.string s,.string p] w λe w' =>e= .returned (.bool (Lib.hasPrefix s.data.toList p.data.toList))/\w' =w:=Any.strings_HasPrefix Tryz.Uc s p w
def Tryz.HH:Go.Shelf.Ren:=⟨fun|100=>157|207=>212|n=>n,fun|9=>9|4=>4|3=>3|n=>n,fun|n=>n⟩
theorem Tryz.SK:Go.Proofs.Lays.n100 Tryz.prog Tryz.HH:={
 mixed:=by kernel_rfl
 f100:=Tryz.func157.trans (congrArg some (by kernel_rfl))
 f207:=Tryz.func212.trans (congrArg some (by kernel_rfl))
 t3:=Tryz.underlying3
 a3:=Tryz.isAgg3
 z3:=Tryz.sizeOf3
 v3:=Tryz.zeroValue3
 t4:=Tryz.underlying4
 a4:=Tryz.isAgg4
 z4:=Tryz.sizeOf4
 v4:=Tryz.zeroValue4
 t9:=Tryz.underlying9
 a9:=Tryz.isAgg9
 z9:=Tryz.sizeOf9
 v9:=Tryz.zeroValue9}
open Go.RowKit Go.Lib in
theorem Tryz.strings_HasSuffix(s p:ByteArray)(w:World)(hs:s.size<=9223372036854775807) :
 Calls Tryz.prog 157 #[.string s,.string p] w λe w' =>e= .returned (.bool (Lib.hasSuffix s.data.toList p.data.toList))/\w' =w:=Any.strings_HasSuffix Tryz.SK s p w hs
end Go.Proofs
