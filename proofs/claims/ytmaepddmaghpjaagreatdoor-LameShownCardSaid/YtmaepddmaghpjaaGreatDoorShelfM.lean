/-
  One text.
-/
import Derived.Test.YtmaepddmaghpjaaGreatDoorAbM
import Derived.Shelf.Strings.Builder1
import Derived.Shelf.Strings.Builder2
import Derived.Shelf.Strings.OnBuilder
import Derived.Shelf.Small.Bits
import Derived.Shelf.Small.Strs
import Derived.Shelf.Strconv.Itoa0
import Derived.Shelf.Strings.Search1
import Derived.Shelf.Strings.LastIndex
import Derived.Shelf.Strings.Prefix
import Derived.Shelf.Slices.Equal
import Derived.Shelf.Slices.Empties2
import Derived.Test.YtmaepddmaghpjaaGreatDoorProg
set_option linter.all false
namespace Go.Proofs
open Go.Shelf
def Tryz.wE:Go.Shelf.Ren:=⟨fun|156=>226|165=>227|166=>228|169=>229|240=>230|241=>231|276=>232|277=>233|n=>n,fun|31=>73|9=>9|3=>3|4=>4|0=>0|20=>20|72=>258|76=>262|70=>255|37=>256|75=>261|127=>264|164=>265|5=>5|80=>230|n=>n,fun|n=>n⟩
theorem Tryz.Rj:Go.Proofs.Lays.n156 Tryz.prog Tryz.wE:={
 mixed:=by kernel_rfl
 f156:=Tryz.func226.trans (congrArg some (by kernel_rfl))
 f165:=Tryz.func227.trans (congrArg some (by kernel_rfl))
 f166:=Tryz.func228.trans (congrArg some (by kernel_rfl))
 f169:=Tryz.func229.trans (congrArg some (by kernel_rfl))
 f240:=Tryz.func230.trans (congrArg some (by kernel_rfl))
 f241:=Tryz.func231.trans (congrArg some (by kernel_rfl))
 f276:=Tryz.func232.trans (congrArg some (by kernel_rfl))
 f277:=Tryz.func233.trans (congrArg some (by kernel_rfl))
 t0:=Tryz.underlying0
 a0:=Tryz.isAgg0
 z0:=Tryz.sizeOf0
 v0:=Tryz.zeroValue0
 t3:=Tryz.underlying3
 a3:=Tryz.isAgg3
 z3:=Tryz.sizeOf3
 v3:=Tryz.zeroValue3
 t4:=Tryz.underlying4
 a4:=Tryz.isAgg4
 z4:=Tryz.sizeOf4
 v4:=Tryz.zeroValue4
 t9:=Tryz.underlying9
 a9:=Tryz.isAgg9
 z9:=Tryz.sizeOf9
 v9:=Tryz.zeroValue9
 t20:=Tryz.underlying20
 a20:=Tryz.isAgg20
 z20:=Tryz.sizeOf20
 v20:=Tryz.zeroValue20
 t31:=Tryz.underlying73
 a31:=Tryz.isAgg73
 z31:=Tryz.sizeOf73
 v31:=Tryz.zeroValue73
 t37:=Tryz.underlying256
 a37:=Tryz.isAgg256
 z37:=Tryz.sizeOf256
 v37:=Tryz.zeroValue256
 t70:=Tryz.underlying255
 a70:=Tryz.isAgg255
 z70:=Tryz.sizeOf255
 v70:=Tryz.zeroValue255
 t72:=Tryz.underlying258
 a72:=Tryz.isAgg258
 z72:=Tryz.sizeOf258
 v72:=Tryz.zeroValue258
 t75:=Tryz.underlying261
 a75:=Tryz.isAgg261
 z75:=Tryz.sizeOf261
 v75:=Tryz.zeroValue261
 t76:=Tryz.underlying262
 a76:=Tryz.isAgg262
 z76:=Tryz.sizeOf262
 v76:=Tryz.zeroValue262
 t127:=Tryz.underlying264
 a127:=Tryz.isAgg264
 z127:=Tryz.sizeOf264
 v127:=Tryz.zeroValue264
 t164:=Tryz.underlying265
 a164:=Tryz.isAgg265
 z164:=Tryz.sizeOf265
 v164:=Tryz.zeroValue265}
theorem Tryz.vZ:Builder.Extra Tryz.prog Tryz.wE:={
 sizeBuilder:=by kernel_rfl
 liesBuilder:=by kernel_rfl
 t5:=Tryz.underlying5
 a5:=Tryz.isAgg5
 z5:=Tryz.sizeOf5
 v5:=Tryz.zeroValue5
 infoByte:=by kernel_rfl
 cellsByte:=by kernel_rfl
 sizeByte:=by kernel_rfl
 neB5:=by decide}
open Go.RowKit in
theorem Tryz.strings_Join(bk o c:Nat)(xs:List ByteArray)(sep:ByteArray)(w:World)(hcells:∀(j:Nat) x,xs[j]? =some x->w.cell? ⟨bk,o+j,none⟩=some (.string x))(hbk:bk<w.heap.size)(hN:xs.length<=140737488355328)(hcap:xs.length<=c)(hlen:(Lib.join (xs.map (·.data.toList)) sep.data.toList).length<=140737488355328) :
 Calls Tryz.prog 226 #[.slice (some ⟨bk,o,none⟩) xs.length c,.string sep] w λe w' =>e= .returned (.string ⟨(Lib.join (xs.map (·.data.toList)) sep.data.toList).toArray⟩)/\Below w.heap.size w w' :=Any.strings_Join Tryz.Rj Tryz.vZ bk o c xs sep w hcells hbk hN hcap hlen
def Tryz.FT:Go.Shelf.Ren:=⟨fun|106=>117|213=>173|265=>207|n=>n,fun|9=>9|3=>3|n=>n,fun|n=>n⟩
theorem Tryz.Rg:Go.Proofs.Lays.n106 Tryz.prog Tryz.FT:={
 mixed:=by kernel_rfl
 f106:=Tryz.func117.trans (congrArg some (by kernel_rfl))
 f213:=Tryz.func173.trans (congrArg some (by kernel_rfl))
 f265:=Tryz.func207.trans (congrArg some (by kernel_rfl))
 t3:=Tryz.underlying3
 a3:=Tryz.isAgg3
 z3:=Tryz.sizeOf3
 v3:=Tryz.zeroValue3
 t9:=Tryz.underlying9
 a9:=Tryz.isAgg9
 z9:=Tryz.sizeOf9
 v9:=Tryz.zeroValue9}
open Go.RowKit in
theorem Tryz.strings_Compare(a b:ByteArray)(w:World) :
 Calls Tryz.prog 117 #[.string a,.string b] w λe w' =>e= .returned (.int .i64 (Lib.compareBytes a.data.toList b.data.toList))/\w' =w:=Any.strings_Compare Tryz.Rg a b w
def Tryz.FU:Go.Shelf.Ren:=⟨fun|137=>95|217=>136|266=>191|n=>n,fun|9=>9|5=>5|3=>3|n=>n,fun|n=>n⟩
theorem Tryz.Rh:Go.Proofs.Lays.n137 Tryz.prog Tryz.FU:={
 mixed:=by kernel_rfl
 f137:=Tryz.func95.trans (congrArg some (by kernel_rfl))
 f217:=Tryz.func136.trans (congrArg some (by kernel_rfl))
 f266:=Tryz.func191.trans (congrArg some (by kernel_rfl))
 t3:=Tryz.underlying3
 a3:=Tryz.isAgg3
 z3:=Tryz.sizeOf3
 v3:=Tryz.zeroValue3
 t5:=Tryz.underlying5
 a5:=Tryz.isAgg5
 z5:=Tryz.sizeOf5
 v5:=Tryz.zeroValue5
 t9:=Tryz.underlying9
 a9:=Tryz.isAgg9
 z9:=Tryz.sizeOf9
 v9:=Tryz.zeroValue9}
open Go.RowKit in
theorem Tryz.strings_IndexByte(s:ByteArray)(c:Int)(w:World) :
 Calls Tryz.prog 95 #[.string s,.int .u8 c] w λe w' =>e= .returned (.int .i64 (Lib.indexByte s.data.toList c.toNat.toUInt8))/\w' =w:=Any.strings_IndexByte Tryz.Rh s c w
def Tryz.FV:Go.Shelf.Ren:=⟨fun|149=>172|222=>206|n=>n,fun|9=>9|5=>5|3=>3|4=>4|n=>n,fun|n=>n⟩
theorem Tryz.Ri:Go.Proofs.Lays.n149 Tryz.prog Tryz.FV:={
 mixed:=by kernel_rfl
 f149:=Tryz.func172.trans (congrArg some (by kernel_rfl))
 f222:=Tryz.func206.trans (congrArg some (by kernel_rfl))
 t3:=Tryz.underlying3
 a3:=Tryz.isAgg3
 z3:=Tryz.sizeOf3
 v3:=Tryz.zeroValue3
 t4:=Tryz.underlying4
 a4:=Tryz.isAgg4
 z4:=Tryz.sizeOf4
 v4:=Tryz.zeroValue4
 t5:=Tryz.underlying5
 a5:=Tryz.isAgg5
 z5:=Tryz.sizeOf5
 v5:=Tryz.zeroValue5
 t9:=Tryz.underlying9
 a9:=Tryz.isAgg9
 z9:=Tryz.sizeOf9
 v9:=Tryz.zeroValue9}
open Go.RowKit Go.Lib in
theorem Tryz.strings_LastIndexByte(s:ByteArray)(c:Int)(hs:s.size<4611686018427387904)(w:World) :
 Calls Tryz.prog 172 #[.string s,.int .u8 c] w λe w' =>e= .returned (.int .i64 (Lib.lastIndexByte s c))/\w' =w:=Any.strings_LastIndexByte Tryz.Ri s c hs w
def Tryz.Jk:Go.Shelf.Ren:=⟨fun|99=>131|206=>190|n=>n,fun|9=>9|4=>4|3=>3|n=>n,fun|n=>n⟩
theorem Tryz.Sw:Go.Proofs.Lays.n99 Tryz.prog Tryz.Jk:={
 mixed:=by kernel_rfl
 f99:=Tryz.func131.trans (congrArg some (by kernel_rfl))
 f206:=Tryz.func190.trans (congrArg some (by kernel_rfl))
 t3:=Tryz.underlying3
 a3:=Tryz.isAgg3
 z3:=Tryz.sizeOf3
 v3:=Tryz.zeroValue3
 t4:=Tryz.underlying4
 a4:=Tryz.isAgg4
 z4:=Tryz.sizeOf4
 v4:=Tryz.zeroValue4
 t9:=Tryz.underlying9
 a9:=Tryz.isAgg9
 z9:=Tryz.sizeOf9
 v9:=Tryz.zeroValue9}
open Go.RowKit Go.Lib in
theorem Tryz.strings_HasPrefix(s p:ByteArray)(w:World) :
 Calls Tryz.prog 131 #[.string s,.string p] w λe w' =>e= .returned (.bool (Lib.hasPrefix s.data.toList p.data.toList))/\w' =w:=Any.strings_HasPrefix Tryz.Sw s p w
def Tryz.FR:Go.Shelf.Ren:=⟨fun|100=>94|207=>135|n=>n,fun|9=>9|4=>4|3=>3|n=>n,fun|n=>n⟩
theorem Tryz.Rf:Go.Proofs.Lays.n100 Tryz.prog Tryz.FR:={
 mixed:=by kernel_rfl
 f100:=Tryz.func94.trans (congrArg some (by kernel_rfl))
 f207:=Tryz.func135.trans (congrArg some (by kernel_rfl))
 t3:=Tryz.underlying3
 a3:=Tryz.isAgg3
 z3:=Tryz.sizeOf3
 v3:=Tryz.zeroValue3
 t4:=Tryz.underlying4
 a4:=Tryz.isAgg4
 z4:=Tryz.sizeOf4
 v4:=Tryz.zeroValue4
 t9:=Tryz.underlying9
 a9:=Tryz.isAgg9
 z9:=Tryz.sizeOf9
 v9:=Tryz.zeroValue9}
open Go.RowKit Go.Lib in
theorem Tryz.strings_HasSuffix(s p:ByteArray)(w:World)(hs:s.size<=9223372036854775807) :
 Calls Tryz.prog 94 #[.string s,.string p] w λe w' =>e= .returned (.bool (Lib.hasSuffix s.data.toList p.data.toList))/\w' =w:=Any.strings_HasSuffix Tryz.Rf s p w hs
end Go.Proofs
