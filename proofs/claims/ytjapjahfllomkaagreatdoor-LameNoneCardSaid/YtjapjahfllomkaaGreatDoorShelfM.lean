/-
  One text.
-/
import Derived.Test.YtjapjahfllomkaaGreatDoorAbM
import Derived.Shelf.Strings.Builder1
import Derived.Shelf.Strings.Builder2
import Derived.Shelf.Strings.OnBuilder
import Derived.Shelf.Small.Bits
import Derived.Shelf.Small.Strs
import Derived.Shelf.Strconv.Itoa0
import Derived.Shelf.Strings.Search1
import Derived.Shelf.Strings.LastIndex
import Derived.Shelf.Strings.Prefix
import Derived.Shelf.Slices.Equal
import Derived.Ground.Names2Prog
import Derived.Shelf.Slices.ReverseS
import Derived.Shelf.Slices.Clone
import Derived.Shelf.Slices.CompactS
import Derived.Shelf.Slices.SearchI
import Derived.Shelf.Slices.Cells
import Derived.Shelf.Slices.Empties2
import Derived.Ground.SlgnProg
import Derived.Shelf.SlicesE.Clone
import Derived.Ground.SlsfProg
import Derived.Shelf.SlSortCmp.Insertion
import Derived.Shelf.SlSortCmp.SiftDown1
import Derived.Shelf.SlSortCmp.HeapSort1
import Derived.Shelf.SlSortCmp.Insertion1
import Derived.Shelf.SlSortCmp.Median1
import Derived.Shelf.SlSortCmp.Pivot1
import Derived.Shelf.SlSortCmp.ReverseRange1
import Derived.Shelf.SlSortCmp.PartialInsertion1
import Derived.Shelf.SlSortCmp.PartitionEqual1
import Derived.Shelf.SlSortCmp.Partition1
import Derived.Shelf.SlSortCmp.Pdq1
import Derived.Shelf.SlSortCmp.Whole1
import Derived.Shelf.SlSortCmp.NoneTotal
import Derived.Test.YtjapjahfllomkaaGreatDoorProg
set_option linter.all false
namespace Go.Proofs
open Go.Shelf
def Tryz.xp:Go.Shelf.Ren:=⟨fun|156=>315|165=>318|166=>319|169=>320|240=>321|241=>322|276=>323|277=>324|n=>n,fun|31=>58|9=>9|3=>3|4=>4|0=>0|20=>20|72=>335|76=>339|70=>332|37=>333|75=>338|127=>341|164=>342|5=>5|80=>295|n=>n,fun|n=>n⟩
theorem Tryz.RY:Go.Proofs.Lays.n156 Tryz.prog Tryz.xp:={
 mixed:=by kernel_rfl
 f156:=Tryz.func315.trans (congrArg some (by kernel_rfl))
 f165:=Tryz.func318.trans (congrArg some (by kernel_rfl))
 f166:=Tryz.func319.trans (congrArg some (by kernel_rfl))
 f169:=Tryz.func320.trans (congrArg some (by kernel_rfl))
 f240:=Tryz.func321.trans (congrArg some (by kernel_rfl))
 f241:=Tryz.func322.trans (congrArg some (by kernel_rfl))
 f276:=Tryz.func323.trans (congrArg some (by kernel_rfl))
 f277:=Tryz.func324.trans (congrArg some (by kernel_rfl))
 t0:=Tryz.underlying0
 a0:=Tryz.isAgg0
 z0:=Tryz.sizeOf0
 v0:=Tryz.zeroValue0
 t3:=Tryz.underlying3
 a3:=Tryz.isAgg3
 z3:=Tryz.sizeOf3
 v3:=Tryz.zeroValue3
 t4:=Tryz.underlying4
 a4:=Tryz.isAgg4
 z4:=Tryz.sizeOf4
 v4:=Tryz.zeroValue4
 t9:=Tryz.underlying9
 a9:=Tryz.isAgg9
 z9:=Tryz.sizeOf9
 v9:=Tryz.zeroValue9
 t20:=Tryz.underlying20
 a20:=Tryz.isAgg20
 z20:=Tryz.sizeOf20
 v20:=Tryz.zeroValue20
 t31:=Tryz.underlying58
 a31:=Tryz.isAgg58
 z31:=Tryz.sizeOf58
 v31:=Tryz.zeroValue58
 t37:=Tryz.underlying333
 a37:=Tryz.isAgg333
 z37:=Tryz.sizeOf333
 v37:=Tryz.zeroValue333
 t70:=Tryz.underlying332
 a70:=Tryz.isAgg332
 z70:=Tryz.sizeOf332
 v70:=Tryz.zeroValue332
 t72:=Tryz.underlying335
 a72:=Tryz.isAgg335
 z72:=Tryz.sizeOf335
 v72:=Tryz.zeroValue335
 t75:=Tryz.underlying338
 a75:=Tryz.isAgg338
 z75:=Tryz.sizeOf338
 v75:=Tryz.zeroValue338
 t76:=Tryz.underlying339
 a76:=Tryz.isAgg339
 z76:=Tryz.sizeOf339
 v76:=Tryz.zeroValue339
 t127:=Tryz.underlying341
 a127:=Tryz.isAgg341
 z127:=Tryz.sizeOf341
 v127:=Tryz.zeroValue341
 t164:=Tryz.underlying342
 a164:=Tryz.isAgg342
 z164:=Tryz.sizeOf342
 v164:=Tryz.zeroValue342}
theorem Tryz.wS:Builder.Extra Tryz.prog Tryz.xp:={
 sizeBuilder:=by kernel_rfl
 liesBuilder:=by kernel_rfl
 t5:=Tryz.underlying5
 a5:=Tryz.isAgg5
 z5:=Tryz.sizeOf5
 v5:=Tryz.zeroValue5
 infoByte:=by kernel_rfl
 cellsByte:=by kernel_rfl
 sizeByte:=by kernel_rfl
 neB5:=by decide}
open Go.RowKit in
theorem Tryz.strings_Join(bk o c:Nat)(xs:List ByteArray)(sep:ByteArray)(w:World)(hcells:∀(j:Nat) x,xs[j]? =some x->w.cell? ⟨bk,o+j,none⟩=some (.string x))(hbk:bk<w.heap.size)(hN:xs.length<=140737488355328)(hcap:xs.length<=c)(hlen:(Lib.join (xs.map (·.data.toList)) sep.data.toList).length<=140737488355328) :
 Calls Tryz.prog 315 #[.slice (some ⟨bk,o,none⟩) xs.length c,.string sep] w λe w' =>e= .returned (.string ⟨(Lib.join (xs.map (·.data.toList)) sep.data.toList).toArray⟩)/\Below w.heap.size w w' :=Any.strings_Join Tryz.RY Tryz.wS bk o c xs sep w hcells hbk hN hcap hlen
def Tryz.GM:Go.Shelf.Ren:=⟨fun|106=>184|213=>243|265=>292|n=>n,fun|9=>9|3=>3|n=>n,fun|n=>n⟩
theorem Tryz.RV:Go.Proofs.Lays.n106 Tryz.prog Tryz.GM:={
 mixed:=by kernel_rfl
 f106:=Tryz.func184.trans (congrArg some (by kernel_rfl))
 f213:=Tryz.func243.trans (congrArg some (by kernel_rfl))
 f265:=Tryz.func292.trans (congrArg some (by kernel_rfl))
 t3:=Tryz.underlying3
 a3:=Tryz.isAgg3
 z3:=Tryz.sizeOf3
 v3:=Tryz.zeroValue3
 t9:=Tryz.underlying9
 a9:=Tryz.isAgg9
 z9:=Tryz.sizeOf9
 v9:=Tryz.zeroValue9}
open Go.RowKit in
theorem Tryz.strings_Compare(a b:ByteArray)(w:World) :
 Calls Tryz.prog 184 #[.string a,.string b] w λe w' =>e= .returned (.int .i64 (Lib.compareBytes a.data.toList b.data.toList))/\w' =w:=Any.strings_Compare Tryz.RV a b w
def Tryz.GN:Go.Shelf.Ren:=⟨fun|137=>168|217=>217|266=>272|n=>n,fun|9=>9|5=>5|3=>3|n=>n,fun|n=>n⟩
theorem Tryz.RW:Go.Proofs.Lays.n137 Tryz.prog Tryz.GN:={
 mixed:=by kernel_rfl
 f137:=Tryz.func168.trans (congrArg some (by kernel_rfl))
 f217:=Tryz.func217.trans (congrArg some (by kernel_rfl))
 f266:=Tryz.func272.trans (congrArg some (by kernel_rfl))
 t3:=Tryz.underlying3
 a3:=Tryz.isAgg3
 z3:=Tryz.sizeOf3
 v3:=Tryz.zeroValue3
 t5:=Tryz.underlying5
 a5:=Tryz.isAgg5
 z5:=Tryz.sizeOf5
 v5:=Tryz.zeroValue5
 t9:=Tryz.underlying9
 a9:=Tryz.isAgg9
 z9:=Tryz.sizeOf9
 v9:=Tryz.zeroValue9}
open Go.RowKit in
theorem Tryz.strings_IndexByte(s:ByteArray)(c:Int)(w:World) :
 Calls Tryz.prog 168 #[.string s,.int .u8 c] w λe w' =>e= .returned (.int .i64 (Lib.indexByte s.data.toList c.toNat.toUInt8))/\w' =w:=Any.strings_IndexByte Tryz.RW s c w
def Tryz.GO:Go.Shelf.Ren:=⟨fun|149=>242|222=>291|n=>n,fun|9=>9|5=>5|3=>3|4=>4|n=>n,fun|n=>n⟩
theorem Tryz.RX:Go.Proofs.Lays.n149 Tryz.prog Tryz.GO:={
 mixed:=by kernel_rfl
 f149:=Tryz.func242.trans (congrArg some (by kernel_rfl))
 f222:=Tryz.func291.trans (congrArg some (by kernel_rfl))
 t3:=Tryz.underlying3
 a3:=Tryz.isAgg3
 z3:=Tryz.sizeOf3
 v3:=Tryz.zeroValue3
 t4:=Tryz.underlying4
 a4:=Tryz.isAgg4
 z4:=Tryz.sizeOf4
 v4:=Tryz.zeroValue4
 t5:=Tryz.underlying5
 a5:=Tryz.isAgg5
 z5:=Tryz.sizeOf5
 v5:=Tryz.zeroValue5
 t9:=Tryz.underlying9
 a9:=Tryz.isAgg9
 z9:=Tryz.sizeOf9
 v9:=Tryz.zeroValue9}
open Go.RowKit Go.Lib in
theorem Tryz.strings_LastIndexByte(s:ByteArray)(c:Int)(hs:s.size<4611686018427387904)(w:World) :
 Calls Tryz.prog 242 #[.string s,.int .u8 c] w λe w' =>e= .returned (.int .i64 (Lib.lastIndexByte s c))/\w' =w:=Any.strings_LastIndexByte Tryz.RX s c hs w
def Tryz.Kd:Go.Shelf.Ren:=⟨fun|99=>213|206=>271|n=>n,fun|9=>9|4=>4|3=>3|n=>n,fun|n=>n⟩
theorem Tryz.Tr:Go.Proofs.Lays.n99 Tryz.prog Tryz.Kd:={
 mixed:=by kernel_rfl
 f99:=Tryz.func213.trans (congrArg some (by kernel_rfl))
 f206:=Tryz.func271.trans (congrArg some (by kernel_rfl))
 t3:=Tryz.underlying3
 a3:=Tryz.isAgg3
 z3:=Tryz.sizeOf3
 v3:=Tryz.zeroValue3
 t4:=Tryz.underlying4
 a4:=Tryz.isAgg4
 z4:=Tryz.sizeOf4
 v4:=Tryz.zeroValue4
 t9:=Tryz.underlying9
 a9:=Tryz.isAgg9
 z9:=Tryz.sizeOf9
 v9:=Tryz.zeroValue9}
open Go.RowKit Go.Lib in
theorem Tryz.strings_HasPrefix(s p:ByteArray)(w:World) :
 Calls Tryz.prog 213 #[.string s,.string p] w λe w' =>e= .returned (.bool (Lib.hasPrefix s.data.toList p.data.toList))/\w' =w:=Any.strings_HasPrefix Tryz.Tr s p w
def Tryz.GL:Go.Shelf.Ren:=⟨fun|100=>167|207=>216|n=>n,fun|9=>9|4=>4|3=>3|n=>n,fun|n=>n⟩
theorem Tryz.RU:Go.Proofs.Lays.n100 Tryz.prog Tryz.GL:={
 mixed:=by kernel_rfl
 f100:=Tryz.func167.trans (congrArg some (by kernel_rfl))
 f207:=Tryz.func216.trans (congrArg some (by kernel_rfl))
 t3:=Tryz.underlying3
 a3:=Tryz.isAgg3
 z3:=Tryz.sizeOf3
 v3:=Tryz.zeroValue3
 t4:=Tryz.underlying4
 a4:=Tryz.isAgg4
 z4:=Tryz.sizeOf4
 v4:=Tryz.zeroValue4
 t9:=Tryz.underlying9
 a9:=Tryz.isAgg9
 z9:=Tryz.sizeOf9
 v9:=Tryz.zeroValue9}
open Go.RowKit Go.Lib in
theorem Tryz.strings_HasSuffix(s p:ByteArray)(w:World)(hs:s.size<=9223372036854775807) :
 Calls Tryz.prog 167 #[.string s,.string p] w λe w' =>e= .returned (.bool (Lib.hasSuffix s.data.toList p.data.toList))/\w' =w:=Any.strings_HasSuffix Tryz.RU s p w hs
end Go.Proofs
