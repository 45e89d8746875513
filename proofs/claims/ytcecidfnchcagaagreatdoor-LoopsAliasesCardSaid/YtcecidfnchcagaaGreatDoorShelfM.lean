/-
  Contracts of library functions at this seat's translation, laid by the kit's tools lay-shelf and lay-plain; remarks struck.
-/
import Derived.Test.YtcecidfnchcagaaGreatDoorAbM
import Derived.Shelf.Strings.Builder1
import Derived.Shelf.Strings.Builder2
import Derived.Shelf.Strings.OnBuilder
import Derived.Shelf.Small.Bits
import Derived.Shelf.Small.Strs
import Derived.Shelf.Strconv.Itoa0
import Derived.Shelf.Strings.Search1
import Derived.Shelf.Strings.LastIndex
import Derived.Shelf.Strings.Prefix
import Derived.Ground.Names2Prog
import Derived.Shelf.Slices.ReverseS
import Derived.Shelf.Slices.Clone
import Derived.Shelf.Slices.CompactS
import Derived.Shelf.Slices.SearchI
import Derived.Shelf.Slices.Cells
import Derived.Ground.SlgnProg
import Derived.Shelf.SlicesE.Clone
import Derived.Ground.SlsfProg
import Derived.Shelf.SlSortCmp.Insertion
import Derived.Shelf.SlSortCmp.SiftDown1
import Derived.Shelf.SlSortCmp.HeapSort1
import Derived.Shelf.SlSortCmp.Insertion1
import Derived.Shelf.SlSortCmp.Median1
import Derived.Shelf.SlSortCmp.Pivot1
import Derived.Shelf.SlSortCmp.ReverseRange1
import Derived.Shelf.SlSortCmp.PartialInsertion1
import Derived.Shelf.SlSortCmp.PartitionEqual1
import Derived.Shelf.SlSortCmp.Partition1
import Derived.Shelf.SlSortCmp.Pdq1
import Derived.Shelf.SlSortCmp.Whole1
import Derived.Shelf.SlSortCmp.NoneTotal
import Derived.Test.YtcecidfnchcagaaGreatDoorProg
set_option linter.all false
namespace Go.Proofs
open Go.Shelf
def Tryz.uM:Go.Shelf.Ren:=⟨fun | 156=>321 | 165=>324 | 166=>325 | 169=>326 | 240=>327 | 241=>328 | 276=>329 | 277=>330 | n=>n,fun | 31=>58 | 9=>9 | 3=>3 | 4=>4 | 0=>0 | 20=>20 | 72=>336 | 76=>340 | 70=>333 | 37=>334 | 75=>339 | 127=>342 | 164=>343 | 5=>5 | 80=>296 | n=>n,fun | n=>n⟩
theorem Tryz.Mb:Go.Proofs.Lays.n156 Tryz.prog Tryz.uM:={
 mixed:=by kernel_rfl
 f156:=Tryz.func321.trans (congrArg some (by kernel_rfl))
 f165:=Tryz.func324.trans (congrArg some (by kernel_rfl))
 f166:=Tryz.func325.trans (congrArg some (by kernel_rfl))
 f169:=Tryz.func326.trans (congrArg some (by kernel_rfl))
 f240:=Tryz.func327.trans (congrArg some (by kernel_rfl))
 f241:=Tryz.func328.trans (congrArg some (by kernel_rfl))
 f276:=Tryz.func329.trans (congrArg some (by kernel_rfl))
 f277:=Tryz.func330.trans (congrArg some (by kernel_rfl))
 t0:=Tryz.underlying0
 a0:=Tryz.isAgg0
 z0:=Tryz.sizeOf0
 v0:=Tryz.zeroValue0
 t3:=Tryz.underlying3
 a3:=Tryz.isAgg3
 z3:=Tryz.sizeOf3
 v3:=Tryz.zeroValue3
 t4:=Tryz.underlying4
 a4:=Tryz.isAgg4
 z4:=Tryz.sizeOf4
 v4:=Tryz.zeroValue4
 t9:=Tryz.underlying9
 a9:=Tryz.isAgg9
 z9:=Tryz.sizeOf9
 v9:=Tryz.zeroValue9
 t20:=Tryz.underlying20
 a20:=Tryz.isAgg20
 z20:=Tryz.sizeOf20
 v20:=Tryz.zeroValue20
 t31:=Tryz.underlying58
 a31:=Tryz.isAgg58
 z31:=Tryz.sizeOf58
 v31:=Tryz.zeroValue58
 t37:=Tryz.underlying334
 a37:=Tryz.isAgg334
 z37:=Tryz.sizeOf334
 v37:=Tryz.zeroValue334
 t70:=Tryz.underlying333
 a70:=Tryz.isAgg333
 z70:=Tryz.sizeOf333
 v70:=Tryz.zeroValue333
 t72:=Tryz.underlying336
 a72:=Tryz.isAgg336
 z72:=Tryz.sizeOf336
 v72:=Tryz.zeroValue336
 t75:=Tryz.underlying339
 a75:=Tryz.isAgg339
 z75:=Tryz.sizeOf339
 v75:=Tryz.zeroValue339
 t76:=Tryz.underlying340
 a76:=Tryz.isAgg340
 z76:=Tryz.sizeOf340
 v76:=Tryz.zeroValue340
 t127:=Tryz.underlying342
 a127:=Tryz.isAgg342
 z127:=Tryz.sizeOf342
 v127:=Tryz.zeroValue342
 t164:=Tryz.underlying343
 a164:=Tryz.isAgg343
 z164:=Tryz.sizeOf343
 v164:=Tryz.zeroValue343}
theorem Tryz.uo:Builder.Extra Tryz.prog Tryz.uM:={
 sizeBuilder:=by kernel_rfl
 liesBuilder:=by kernel_rfl
 t5:=Tryz.underlying5
 a5:=Tryz.isAgg5
 z5:=Tryz.sizeOf5
 v5:=Tryz.zeroValue5
 infoByte:=by kernel_rfl
 cellsByte:=by kernel_rfl
 sizeByte:=by kernel_rfl
 neB5:=by decide}
open Go.RowKit in
theorem Tryz.strings_Join(bk o c:Nat)(xs:List ByteArray)(sep:ByteArray)(w:World)(hcells:∀(j:Nat) x,xs[j]? =some x->w.cell? ⟨bk,o+j,none⟩=some (.string x))(hbk:bk<w.heap.size)(hN:xs.length<=140737488355328)(hcap:xs.length<=c)(hlen:(Lib.join (xs.map (·.data.toList)) sep.data.toList).length<=140737488355328) :
 Calls Tryz.prog 321 #[.slice (some ⟨bk,o,none⟩) xs.length c, .string sep] w fun e w' =>e= .returned (.string ⟨(Lib.join (xs.map (·.data.toList)) sep.data.toList).toArray⟩)/\Below w.heap.size w w' :=Any.strings_Join Tryz.Mb Tryz.uo bk o c xs sep w hcells hbk hN hcap hlen
def Tryz.C8:Go.Shelf.Ren:=⟨fun | 106=>198 | 213=>255 | 265=>300 | n=>n,fun | 9=>9 | 3=>3 | n=>n,fun | n=>n⟩
theorem Tryz.L8:Go.Proofs.Lays.n106 Tryz.prog Tryz.C8:={
 mixed:=by kernel_rfl
 f106:=Tryz.func198.trans (congrArg some (by kernel_rfl))
 f213:=Tryz.func255.trans (congrArg some (by kernel_rfl))
 f265:=Tryz.func300.trans (congrArg some (by kernel_rfl))
 t3:=Tryz.underlying3
 a3:=Tryz.isAgg3
 z3:=Tryz.sizeOf3
 v3:=Tryz.zeroValue3
 t9:=Tryz.underlying9
 a9:=Tryz.isAgg9
 z9:=Tryz.sizeOf9
 v9:=Tryz.zeroValue9}
open Go.RowKit in
theorem Tryz.strings_Compare(a b:ByteArray)(w:World) :
 Calls Tryz.prog 198 #[.string a, .string b] w fun e w' =>e= .returned (.int .i64 (Lib.compareBytes a.data.toList b.data.toList))/\w' =w:=Any.strings_Compare Tryz.L8 a b w
def Tryz.C9:Go.Shelf.Ren:=⟨fun | 137=>178 | 217=>225 | 266=>286 | n=>n,fun | 9=>9 | 5=>5 | 3=>3 | n=>n,fun | n=>n⟩
theorem Tryz.L9:Go.Proofs.Lays.n137 Tryz.prog Tryz.C9:={
 mixed:=by kernel_rfl
 f137:=Tryz.func178.trans (congrArg some (by kernel_rfl))
 f217:=Tryz.func225.trans (congrArg some (by kernel_rfl))
 f266:=Tryz.func286.trans (congrArg some (by kernel_rfl))
 t3:=Tryz.underlying3
 a3:=Tryz.isAgg3
 z3:=Tryz.sizeOf3
 v3:=Tryz.zeroValue3
 t5:=Tryz.underlying5
 a5:=Tryz.isAgg5
 z5:=Tryz.sizeOf5
 v5:=Tryz.zeroValue5
 t9:=Tryz.underlying9
 a9:=Tryz.isAgg9
 z9:=Tryz.sizeOf9
 v9:=Tryz.zeroValue9}
open Go.RowKit in
theorem Tryz.strings_IndexByte(s:ByteArray)(c:Int)(w:World) :
 Calls Tryz.prog 178 #[.string s, .int .u8 c] w fun e w' =>e= .returned (.int .i64 (Lib.indexByte s.data.toList c.toNat.toUInt8))/\w' =w:=Any.strings_IndexByte Tryz.L9 s c w
def Tryz.Da:Go.Shelf.Ren:=⟨fun | 149=>254 | 222=>299 | n=>n,fun | 9=>9 | 5=>5 | 3=>3 | 4=>4 | n=>n,fun | n=>n⟩
theorem Tryz.Ma:Go.Proofs.Lays.n149 Tryz.prog Tryz.Da:={
 mixed:=by kernel_rfl
 f149:=Tryz.func254.trans (congrArg some (by kernel_rfl))
 f222:=Tryz.func299.trans (congrArg some (by kernel_rfl))
 t3:=Tryz.underlying3
 a3:=Tryz.isAgg3
 z3:=Tryz.sizeOf3
 v3:=Tryz.zeroValue3
 t4:=Tryz.underlying4
 a4:=Tryz.isAgg4
 z4:=Tryz.sizeOf4
 v4:=Tryz.zeroValue4
 t5:=Tryz.underlying5
 a5:=Tryz.isAgg5
 z5:=Tryz.sizeOf5
 v5:=Tryz.zeroValue5
 t9:=Tryz.underlying9
 a9:=Tryz.isAgg9
 z9:=Tryz.sizeOf9
 v9:=Tryz.zeroValue9}
open Go.RowKit Go.Lib in
theorem Tryz.strings_LastIndexByte(s:ByteArray)(c:Int)(hs:s.size<4611686018427387904)(w:World) :
 Calls Tryz.prog 254 #[.string s, .int .u8 c] w fun e w' =>e= .returned (.int .i64 (Lib.lastIndexByte s c))/\w' =w:=Any.strings_LastIndexByte Tryz.Ma s c hs w
def Tryz.Fx:Go.Shelf.Ren:=⟨fun | 99=>221 | 206=>285 | n=>n,fun | 9=>9 | 4=>4 | 3=>3 | n=>n,fun | n=>n⟩
theorem Tryz.MV:Go.Proofs.Lays.n99 Tryz.prog Tryz.Fx:={
 mixed:=by kernel_rfl
 f99:=Tryz.func221.trans (congrArg some (by kernel_rfl))
 f206:=Tryz.func285.trans (congrArg some (by kernel_rfl))
 t3:=Tryz.underlying3
 a3:=Tryz.isAgg3
 z3:=Tryz.sizeOf3
 v3:=Tryz.zeroValue3
 t4:=Tryz.underlying4
 a4:=Tryz.isAgg4
 z4:=Tryz.sizeOf4
 v4:=Tryz.zeroValue4
 t9:=Tryz.underlying9
 a9:=Tryz.isAgg9
 z9:=Tryz.sizeOf9
 v9:=Tryz.zeroValue9}
open Go.RowKit Go.Lib in
theorem Tryz.strings_HasPrefix(s p:ByteArray)(w:World) :
 Calls Tryz.prog 221 #[.string s, .string p] w fun e w' =>e= .returned (.bool (Lib.hasPrefix s.data.toList p.data.toList))/\w' =w:=Any.strings_HasPrefix Tryz.MV s p w
def Tryz.C7:Go.Shelf.Ren:=⟨fun | 100=>177 | 207=>224 | n=>n,fun | 9=>9 | 4=>4 | 3=>3 | n=>n,fun | n=>n⟩
theorem Tryz.L7:Go.Proofs.Lays.n100 Tryz.prog Tryz.C7:={
 mixed:=by kernel_rfl
 f100:=Tryz.func177.trans (congrArg some (by kernel_rfl))
 f207:=Tryz.func224.trans (congrArg some (by kernel_rfl))
 t3:=Tryz.underlying3
 a3:=Tryz.isAgg3
 z3:=Tryz.sizeOf3
 v3:=Tryz.zeroValue3
 t4:=Tryz.underlying4
 a4:=Tryz.isAgg4
 z4:=Tryz.sizeOf4
 v4:=Tryz.zeroValue4
 t9:=Tryz.underlying9
 a9:=Tryz.isAgg9
 z9:=Tryz.sizeOf9
 v9:=Tryz.zeroValue9}
open Go.RowKit Go.Lib in
theorem Tryz.strings_HasSuffix(s p:ByteArray)(w:World)(hs:s.size<=9223372036854775807) :
 Calls Tryz.prog 177 #[.string s, .string p] w fun e w' =>e= .returned (.bool (Lib.hasSuffix s.data.toList p.data.toList))/\w' =w:=Any.strings_HasSuffix Tryz.L7 s p w hs
def Tryz.zP:Go.Shelf.Ren:=⟨fun | 17=>90 | n=>n,fun | 24=>58 | 9=>9 | 3=>3 | 4=>4 | 0=>0 | n=>n,fun | n=>n⟩
theorem Tryz.yX:Go.Proofs.Lays2.n17 Tryz.prog Tryz.zP:={
 mixed:=by kernel_rfl
 f17:=Tryz.func90.trans (congrArg some (by kernel_rfl))
 t0:=Tryz.underlying0
 a0:=Tryz.isAgg0
 z0:=Tryz.sizeOf0
 v0:=Tryz.zeroValue0
 t3:=Tryz.underlying3
 a3:=Tryz.isAgg3
 z3:=Tryz.sizeOf3
 v3:=Tryz.zeroValue3
 t4:=Tryz.underlying4
 a4:=Tryz.isAgg4
 z4:=Tryz.sizeOf4
 v4:=Tryz.zeroValue4
 t9:=Tryz.underlying9
 a9:=Tryz.isAgg9
 z9:=Tryz.sizeOf9
 v9:=Tryz.zeroValue9
 t24:=Tryz.underlying58
 a24:=Tryz.isAgg58
 z24:=Tryz.sizeOf58
 v24:=Tryz.zeroValue58}
open Go.RowKit Go.Lib Go.Sort in
theorem Tryz.slices_Reverse_string(blk off cap:Nat)(zs:List (List UInt8))(w:World)(hH:Holds encStr w blk off zs.toArray)(hsz:zs.length<=9223372036854775807) :
 Calls Tryz.prog 90 #[.slice (some ⟨blk,off,none⟩) zs.length cap] w fun e w' =>e= .returned (.tuple #[])/\ ∃n,w' =putRow encStr (Sort.ahead w n) blk off zs.reverse.toArray:=Any.slices_Reverse_string Tryz.yX blk off cap zs w hH hsz
open Go.RowKit Go.Lib Go.Sort in
theorem Tryz.slices_Reverse_string_empty(a:Option Addr)(cap:Nat)(w:World) :
 Calls Tryz.prog 90 #[.slice a 0 cap] w fun e w' =>e= .returned (.tuple #[])/\w' =w:=Any.slices_Reverse_string_empty Tryz.yX a cap w
def Tryz.Db:Go.Shelf.Ren:=⟨fun | 194=>158 | n=>n,fun | 31=>58 | 9=>9 | 3=>3 | 4=>4 | 0=>0 | n=>n,fun | n=>n⟩
theorem Tryz.D6:Go.Proofs.Lays.n194 Tryz.prog Tryz.Db:={
 mixed:=by kernel_rfl
 f194:=Tryz.func158.trans (congrArg some (by kernel_rfl))
 t0:=Tryz.underlying0
 a0:=Tryz.isAgg0
 z0:=Tryz.sizeOf0
 v0:=Tryz.zeroValue0
 t3:=Tryz.underlying3
 a3:=Tryz.isAgg3
 z3:=Tryz.sizeOf3
 v3:=Tryz.zeroValue3
 t4:=Tryz.underlying4
 a4:=Tryz.isAgg4
 z4:=Tryz.sizeOf4
 v4:=Tryz.zeroValue4
 t9:=Tryz.underlying9
 a9:=Tryz.isAgg9
 z9:=Tryz.sizeOf9
 v9:=Tryz.zeroValue9
 t31:=Tryz.underlying58
 a31:=Tryz.isAgg58
 z31:=Tryz.sizeOf58
 v31:=Tryz.zeroValue58}
open Go.RowKit Go.Lib Go.Sort in
theorem Tryz.slices_Compact_string(blk off cap:Nat)(zs:List (List UInt8))(w:World)(hH:Holds encStr w blk off zs.toArray)(hsz:zs.length<=9223372036854775807)(hcap:zs.length<=cap) :
 Calls Tryz.prog 158 #[.slice (some ⟨blk,off,none⟩) zs.length cap] w fun e w' =>e= .returned (.slice (some ⟨blk,off,none⟩) (Lib.compact zs).length cap)/\ ∃q,w' =putRow encStr (Sort.ahead w q) blk off (Lib.compact zs++List.replicate (zs.length-(Lib.compact zs).length) []).toArray:=Any.slices_Compact_string Tryz.D6 blk off cap zs w hH hsz hcap
open Go.RowKit Go.Lib Go.Sort in
theorem Tryz.slices_Compact_string_empty(a:Option Addr)(cap:Nat)(w:World) :
 Calls Tryz.prog 158 #[.slice a 0 cap] w fun e w' =>e= .returned (.slice a 0 cap)/\w' =w:=Any.slices_Compact_string_empty Tryz.D6 a cap w
end Go.Proofs
