/-
  One text.
-/
import Derived.Test.YtjojkakjmoefaaaGreatDoorAbM
import Derived.Shelf.Strings.Builder1
import Derived.Shelf.Strings.Builder2
import Derived.Shelf.Strings.OnBuilder
import Derived.Shelf.Small.Bits
import Derived.Shelf.Small.Strs
import Derived.Shelf.Small.Wraps
import Derived.Shelf.Strings.BuilderF
import Derived.Shelf.Strings.BuilderK
import Derived.Shelf.Strings.Builder2Cap
import Derived.Shelf.Strconv.Itoa0
import Derived.Shelf.Strings.Search1
import Derived.Shelf.Strings.LastIndex
import Derived.Shelf.Strings.Prefix
import Derived.Shelf.Strings.BuilderCap
import Derived.Shelf.Slices.Turned
import Derived.Ground.Names2Prog
import Derived.Shelf.Slices.SearchI
import Derived.Ground.PaProg
import Derived.Shelf.Path.Small
import Derived.Test.YtjojkakjmoefaaaGreatDoorProg
set_option linter.all false

namespace Go.Proofs
open Go.Shelf
def Tryz.BD:Go.Shelf.Ren:=⟨fun|156=>224|165=>242|166=>243|169=>244|240=>249|241=>250|276=>252|277=>253|n=>n,fun|31=>76|9=>9|3=>3|4=>4|0=>0|20=>20|72=>286|76=>290|70=>284|37=>257|75=>289|127=>295|164=>297|5=>5|80=>215|n=>n,fun|n=>n⟩
def Tryz.aad:Go.Proofs.Lays.n156 Tryz.prog Tryz.BD:={
 mixed:=by kernel_rfl
 f156:=Tryz.func224.trans (congrArg some<|by kernel_rfl)
 f165:=Tryz.func242.trans (congrArg some<|by kernel_rfl)
 f166:=Tryz.func243.trans (congrArg some<|by kernel_rfl)
 f169:=Tryz.func244.trans (congrArg some<|by kernel_rfl)
 f240:=Tryz.func249.trans (congrArg some<|by kernel_rfl)
 f241:=Tryz.func250.trans (congrArg some<|by kernel_rfl)
 f276:=Tryz.func252.trans (congrArg some<|by kernel_rfl)
 f277:=Tryz.func253.trans (congrArg some<|by kernel_rfl)
 t0:=Tryz.underlying0
 a0:=Tryz.isAgg0
 z0:=Tryz.sizeOf0
 v0:=Tryz.zeroValue0
 t3:=Tryz.underlying3
 a3:=Tryz.isAgg3
 z3:=Tryz.sizeOf3
 v3:=Tryz.zeroValue3
 t4:=Tryz.underlying4
 a4:=Tryz.isAgg4
 z4:=Tryz.sizeOf4
 v4:=Tryz.zeroValue4
 t9:=Tryz.underlying9
 a9:=Tryz.isAgg9
 z9:=Tryz.sizeOf9
 v9:=Tryz.zeroValue9
 t20:=Tryz.underlying20
 a20:=Tryz.isAgg20
 z20:=Tryz.sizeOf20
 v20:=Tryz.zeroValue20
 t31:=Tryz.underlying76
 a31:=Tryz.isAgg76
 z31:=Tryz.sizeOf76
 v31:=Tryz.zeroValue76
 t37:=Tryz.underlying257
 a37:=Tryz.isAgg257
 z37:=Tryz.sizeOf257
 v37:=Tryz.zeroValue257
 t70:=Tryz.underlying284
 a70:=Tryz.isAgg284
 z70:=Tryz.sizeOf284
 v70:=Tryz.zeroValue284
 t72:=Tryz.underlying286
 a72:=Tryz.isAgg286
 z72:=Tryz.sizeOf286
 v72:=Tryz.zeroValue286
 t75:=Tryz.underlying289
 a75:=Tryz.isAgg289
 z75:=Tryz.sizeOf289
 v75:=Tryz.zeroValue289
 t76:=Tryz.underlying290
 a76:=Tryz.isAgg290
 z76:=Tryz.sizeOf290
 v76:=Tryz.zeroValue290
 t127:=Tryz.underlying295
 a127:=Tryz.isAgg295
 z127:=Tryz.sizeOf295
 v127:=Tryz.zeroValue295
 t164:=Tryz.underlying297
 a164:=Tryz.isAgg297
 z164:=Tryz.sizeOf297
 v164:=Tryz.zeroValue297}
def Tryz.Bc:Builder.Extra Tryz.prog Tryz.BD:={
 sizeBuilder:=by kernel_rfl
 liesBuilder:=by kernel_rfl
 t5:=Tryz.underlying5
 a5:=Tryz.isAgg5
 z5:=Tryz.sizeOf5
 v5:=Tryz.zeroValue5
 infoByte:=by kernel_rfl
 cellsByte:=by kernel_rfl
 sizeByte:=by kernel_rfl
 neB5:=by decide}
open Go.RowKit in
def Tryz.strings_Join(J o c:Nat)(xs:List ByteArray)(G:ByteArray)(w:World)(D:∀(j:Nat) x,xs[j]? =some x->w.cell? ⟨J,o+j,none⟩=some (.string x))(K:J<w.heap.size)(N:xs.length<=140737488355328)(H:xs.length<=c)(I:(Lib.join (xs.map (·.data.toList)) G.data.toList).length<=140737488355328) :
 Calls Tryz.prog 224 #[.slice (some ⟨J,o,none⟩) xs.length c,.string G] w λe w' =>e= .returned (.string ⟨(Lib.join (xs.map (·.data.toList)) G.data.toList).toArray⟩)/\Below w.heap.size w w' :=Any.strings_Join Tryz.aad Tryz.Bc J o c xs G w D K N H I
def Tryz.NH:Go.Shelf.Ren:=⟨fun|106=>208|213=>226|265=>245|n=>n,fun|9=>9|3=>3|n=>n,fun|n=>n⟩
def Tryz.aaa:Go.Proofs.Lays.n106 Tryz.prog Tryz.NH:={
 mixed:=by kernel_rfl
 f106:=Tryz.func208.trans (congrArg some<|by kernel_rfl)
 f213:=Tryz.func226.trans (congrArg some<|by kernel_rfl)
 f265:=Tryz.func245.trans (congrArg some<|by kernel_rfl)
 t3:=Tryz.underlying3
 a3:=Tryz.isAgg3
 z3:=Tryz.sizeOf3
 v3:=Tryz.zeroValue3
 t9:=Tryz.underlying9
 a9:=Tryz.isAgg9
 z9:=Tryz.sizeOf9
 v9:=Tryz.zeroValue9}
open Go.RowKit in
def Tryz.strings_Compare(a b:ByteArray)(w:World) :
 Calls Tryz.prog 208 #[.string a,.string b] w λe w' =>e= .returned (.int .i64<|Lib.compareBytes a.data.toList b.data.toList)/\w' =w:=Any.strings_Compare Tryz.aaa a b w
def Tryz.NI:Go.Shelf.Ren:=⟨fun|137=>195|217=>220|266=>241|n=>n,fun|9=>9|5=>5|3=>3|n=>n,fun|n=>n⟩
def Tryz.aab:Go.Proofs.Lays.n137 Tryz.prog Tryz.NI:={
 mixed:=by kernel_rfl
 f137:=Tryz.func195.trans (congrArg some<|by kernel_rfl)
 f217:=Tryz.func220.trans (congrArg some<|by kernel_rfl)
 f266:=Tryz.func241.trans (congrArg some<|by kernel_rfl)
 t3:=Tryz.underlying3
 a3:=Tryz.isAgg3
 z3:=Tryz.sizeOf3
 v3:=Tryz.zeroValue3
 t5:=Tryz.underlying5
 a5:=Tryz.isAgg5
 z5:=Tryz.sizeOf5
 v5:=Tryz.zeroValue5
 t9:=Tryz.underlying9
 a9:=Tryz.isAgg9
 z9:=Tryz.sizeOf9
 v9:=Tryz.zeroValue9}
open Go.RowKit in
def Tryz.strings_IndexByte(s:ByteArray)(c:Int)(w:World) :
 Calls Tryz.prog 195 #[.string s,.int .u8 c] w λe w' =>e= .returned (.int .i64<|Lib.indexByte s.data.toList c.toNat.toUInt8)/\w' =w:=Any.strings_IndexByte Tryz.aab s c w
def Tryz.NJ:Go.Shelf.Ren:=⟨fun|149=>194|222=>219|n=>n,fun|9=>9|5=>5|3=>3|4=>4|n=>n,fun|n=>n⟩
def Tryz.aac:Go.Proofs.Lays.n149 Tryz.prog Tryz.NJ:={
 mixed:=by kernel_rfl
 f149:=Tryz.func194.trans (congrArg some<|by kernel_rfl)
 f222:=Tryz.func219.trans (congrArg some<|by kernel_rfl)
 t3:=Tryz.underlying3
 a3:=Tryz.isAgg3
 z3:=Tryz.sizeOf3
 v3:=Tryz.zeroValue3
 t4:=Tryz.underlying4
 a4:=Tryz.isAgg4
 z4:=Tryz.sizeOf4
 v4:=Tryz.zeroValue4
 t5:=Tryz.underlying5
 a5:=Tryz.isAgg5
 z5:=Tryz.sizeOf5
 v5:=Tryz.zeroValue5
 t9:=Tryz.underlying9
 a9:=Tryz.isAgg9
 z9:=Tryz.sizeOf9
 v9:=Tryz.zeroValue9}
open Go.RowKit Go.Lib in
def Tryz.strings_LastIndexByte(s:ByteArray)(c:Int)(j:s.size<4611686018427387904)(w:World) :
 Calls Tryz.prog 194 #[.string s,.int .u8 c] w λe w' =>e= .returned (.int .i64<|Lib.lastIndexByte s c)/\w' =w:=Any.strings_LastIndexByte Tryz.aac s c j w
def Tryz.Rf:Go.Shelf.Ren:=⟨fun|99=>91|206=>140|n=>n,fun|9=>9|4=>4|3=>3|n=>n,fun|n=>n⟩
def Tryz.abk:Go.Proofs.Lays.n99 Tryz.prog Tryz.Rf:={
 mixed:=by kernel_rfl
 f99:=Tryz.func91.trans (congrArg some<|by kernel_rfl)
 f206:=Tryz.func140.trans (congrArg some<|by kernel_rfl)
 t3:=Tryz.underlying3
 a3:=Tryz.isAgg3
 z3:=Tryz.sizeOf3
 v3:=Tryz.zeroValue3
 t4:=Tryz.underlying4
 a4:=Tryz.isAgg4
 z4:=Tryz.sizeOf4
 v4:=Tryz.zeroValue4
 t9:=Tryz.underlying9
 a9:=Tryz.isAgg9
 z9:=Tryz.sizeOf9
 v9:=Tryz.zeroValue9}
open Go.RowKit Go.Lib in
def Tryz.strings_HasPrefix(s p:ByteArray)(w:World) :
 Calls Tryz.prog 91 #[.string s,.string p] w λe w' =>e= .returned (.bool<|Lib.hasPrefix s.data.toList p.data.toList)/\w' =w:=Any.strings_HasPrefix Tryz.abk s p w
def Tryz.NG:Go.Shelf.Ren:=⟨fun|100=>193|207=>218|n=>n,fun|9=>9|4=>4|3=>3|n=>n,fun|n=>n⟩
def Tryz.ZZ:Go.Proofs.Lays.n100 Tryz.prog Tryz.NG:={
 mixed:=by kernel_rfl
 f100:=Tryz.func193.trans (congrArg some<|by kernel_rfl)
 f207:=Tryz.func218.trans (congrArg some<|by kernel_rfl)
 t3:=Tryz.underlying3
 a3:=Tryz.isAgg3
 z3:=Tryz.sizeOf3
 v3:=Tryz.zeroValue3
 t4:=Tryz.underlying4
 a4:=Tryz.isAgg4
 z4:=Tryz.sizeOf4
 v4:=Tryz.zeroValue4
 t9:=Tryz.underlying9
 a9:=Tryz.isAgg9
 z9:=Tryz.sizeOf9
 v9:=Tryz.zeroValue9}
open Go.RowKit Go.Lib in
def Tryz.strings_HasSuffix(s p:ByteArray)(w:World)(j:s.size<=9223372036854775807) :
 Calls Tryz.prog 193 #[.string s,.string p] w λe w' =>e= .returned (.bool<|Lib.hasSuffix s.data.toList p.data.toList)/\w' =w:=Any.strings_HasSuffix Tryz.ZZ s p w j
