/-
  Contracts of library functions at this seat's translation, laid by the kit's tools lay-shelf and lay-plain; remarks struck.
-/
import Derived.Shelf.Strings.Builder1
import Derived.Shelf.Strings.Builder2
import Derived.Shelf.Strings.OnBuilder
import Derived.Shelf.Small.Bits
import Derived.Shelf.Small.Strs
import Derived.Shelf.Strconv.Itoa0
import Derived.Shelf.Strings.Search1
import Derived.Shelf.Strings.LastIndex
import Derived.Shelf.Strings.Prefix
import Derived.Test.YtnbnldnfkikakaaGreatDoorProg
set_option linter.all false
namespace Go.Proofs
open Go.Shelf
open Go.RowKit in
open Go.RowKit in
open Go.RowKit in
open Go.RowKit in
open Go.RowKit in
def Tryz.rJ : Go.Shelf.Ren := ⟨fun | 156 => 195 | 165 => 205 | 166 => 206 | 169 => 207 | 240 => 210 | 241 => 211 | 276 => 213 | 277 => 214 | n => n, fun | 31 => 101 | 9 => 9 | 3 => 3 | 4 => 4 | 0 => 0 | 20 => 20 | 72 => 226 | 76 => 230 | 70 => 223 | 37 => 224 | 75 => 229 | 127 => 232 | 164 => 233 | 5 => 5 | 80 => 153 | n => n, fun | n => n⟩
theorem Tryz.GZ : Go.Proofs.Lays.n156 Tryz.prog Tryz.rJ := {
 mixed := by kernel_rfl
 f156 := Tryz.func195.trans (congrArg some (by kernel_rfl))
 f165 := Tryz.func205.trans (congrArg some (by kernel_rfl))
 f166 := Tryz.func206.trans (congrArg some (by kernel_rfl))
 f169 := Tryz.func207.trans (congrArg some (by kernel_rfl))
 f240 := Tryz.func210.trans (congrArg some (by kernel_rfl))
 f241 := Tryz.func211.trans (congrArg some (by kernel_rfl))
 f276 := Tryz.func213.trans (congrArg some (by kernel_rfl))
 f277 := Tryz.func214.trans (congrArg some (by kernel_rfl))
 t0 := Tryz.underlying0
 a0 := Tryz.isAgg0
 z0 := Tryz.sizeOf0
 v0 := Tryz.zeroValue0
 t3 := Tryz.underlying3
 a3 := Tryz.isAgg3
 z3 := Tryz.sizeOf3
 v3 := Tryz.zeroValue3
 t4 := Tryz.underlying4
 a4 := Tryz.isAgg4
 z4 := Tryz.sizeOf4
 v4 := Tryz.zeroValue4
 t9 := Tryz.underlying9
 a9 := Tryz.isAgg9
 z9 := Tryz.sizeOf9
 v9 := Tryz.zeroValue9
 t20 := Tryz.underlying20
 a20 := Tryz.isAgg20
 z20 := Tryz.sizeOf20
 v20 := Tryz.zeroValue20
 t31 := Tryz.underlying101
 a31 := Tryz.isAgg101
 z31 := Tryz.sizeOf101
 v31 := Tryz.zeroValue101
 t37 := Tryz.underlying224
 a37 := Tryz.isAgg224
 z37 := Tryz.sizeOf224
 v37 := Tryz.zeroValue224
 t70 := Tryz.underlying223
 a70 := Tryz.isAgg223
 z70 := Tryz.sizeOf223
 v70 := Tryz.zeroValue223
 t72 := Tryz.underlying226
 a72 := Tryz.isAgg226
 z72 := Tryz.sizeOf226
 v72 := Tryz.zeroValue226
 t75 := Tryz.underlying229
 a75 := Tryz.isAgg229
 z75 := Tryz.sizeOf229
 v75 := Tryz.zeroValue229
 t76 := Tryz.underlying230
 a76 := Tryz.isAgg230
 z76 := Tryz.sizeOf230
 v76 := Tryz.zeroValue230
 t127 := Tryz.underlying232
 a127 := Tryz.isAgg232
 z127 := Tryz.sizeOf232
 v127 := Tryz.zeroValue232
 t164 := Tryz.underlying233
 a164 := Tryz.isAgg233
 z164 := Tryz.sizeOf233
 v164 := Tryz.zeroValue233 }
theorem Tryz.rh : Builder.Extra Tryz.prog Tryz.rJ := {
 sizeBuilder := by kernel_rfl
 liesBuilder := by kernel_rfl
 t5 := Tryz.underlying5
 a5 := Tryz.isAgg5
 z5 := Tryz.sizeOf5
 v5 := Tryz.zeroValue5
 infoByte := by kernel_rfl
 cellsByte := by kernel_rfl
 sizeByte := by kernel_rfl
 neB5 := by decide }
open Go.RowKit in
open Go.RowKit in
theorem Tryz.strings_Join (bk o c : Nat) (xs : List ByteArray) (sep : ByteArray) (w : World) (hcells : ∀ (j : Nat) x, xs[j]? = some x -> w.cell? ⟨bk, o + j, none⟩ = some (.string x)) (hbk : bk < w.heap.size) (hN : xs.length <= 140737488355328) (hcap : xs.length <= c) (hlen : (Lib.join (xs.map (·.data.toList)) sep.data.toList).length <= 140737488355328) :
 Calls Tryz.prog 195 #[.slice (some ⟨bk, o, none⟩) xs.length c, .string sep] w fun e w' => e = .returned (.string ⟨(Lib.join (xs.map (·.data.toList)) sep.data.toList).toArray⟩) /\ Below w.heap.size w w' := Any.strings_Join Tryz.GZ Tryz.rh bk o c xs sep w hcells hbk hN hcap hlen
open Go.RowKit in
def Tryz.zd : Go.Shelf.Ren := ⟨fun | 106 => 198 | 213 => 209 | 265 => 212 | n => n, fun | 9 => 9 | 3 => 3 | n => n, fun | n => n⟩
theorem Tryz.GW : Go.Proofs.Lays.n106 Tryz.prog Tryz.zd := {
 mixed := by kernel_rfl
 f106 := Tryz.func198.trans (congrArg some (by kernel_rfl))
 f213 := Tryz.func209.trans (congrArg some (by kernel_rfl))
 f265 := Tryz.func212.trans (congrArg some (by kernel_rfl))
 t3 := Tryz.underlying3
 a3 := Tryz.isAgg3
 z3 := Tryz.sizeOf3
 v3 := Tryz.zeroValue3
 t9 := Tryz.underlying9
 a9 := Tryz.isAgg9
 z9 := Tryz.sizeOf9
 v9 := Tryz.zeroValue9 }
open Go.RowKit in
theorem Tryz.strings_Compare (a b : ByteArray) (w : World) :
 Calls Tryz.prog 198 #[.string a, .string b] w fun e w' => e = .returned (.int .i64 (Lib.compareBytes a.data.toList b.data.toList)) /\ w' = w := Any.strings_Compare Tryz.GW a b w
def Tryz.ze : Go.Shelf.Ren := ⟨fun | 137 => 164 | 217 => 191 | 266 => 204 | n => n, fun | 9 => 9 | 5 => 5 | 3 => 3 | n => n, fun | n => n⟩
theorem Tryz.GX : Go.Proofs.Lays.n137 Tryz.prog Tryz.ze := {
 mixed := by kernel_rfl
 f137 := Tryz.func164.trans (congrArg some (by kernel_rfl))
 f217 := Tryz.func191.trans (congrArg some (by kernel_rfl))
 f266 := Tryz.func204.trans (congrArg some (by kernel_rfl))
 t3 := Tryz.underlying3
 a3 := Tryz.isAgg3
 z3 := Tryz.sizeOf3
 v3 := Tryz.zeroValue3
 t5 := Tryz.underlying5
 a5 := Tryz.isAgg5
 z5 := Tryz.sizeOf5
 v5 := Tryz.zeroValue5
 t9 := Tryz.underlying9
 a9 := Tryz.isAgg9
 z9 := Tryz.sizeOf9
 v9 := Tryz.zeroValue9 }
open Go.RowKit in
theorem Tryz.strings_IndexByte (s : ByteArray) (c : Int) (w : World) :
 Calls Tryz.prog 164 #[.string s, .int .u8 c] w fun e w' => e = .returned (.int .i64 (Lib.indexByte s.data.toList c.toNat.toUInt8)) /\ w' = w := Any.strings_IndexByte Tryz.GX s c w
open Go.RowKit Go.Lib in
open Go.RowKit Go.Lib in
def Tryz.zf : Go.Shelf.Ren := ⟨fun | 149 => 163 | 222 => 190 | n => n, fun | 9 => 9 | 5 => 5 | 3 => 3 | 4 => 4 | n => n, fun | n => n⟩
theorem Tryz.GY : Go.Proofs.Lays.n149 Tryz.prog Tryz.zf := {
 mixed := by kernel_rfl
 f149 := Tryz.func163.trans (congrArg some (by kernel_rfl))
 f222 := Tryz.func190.trans (congrArg some (by kernel_rfl))
 t3 := Tryz.underlying3
 a3 := Tryz.isAgg3
 z3 := Tryz.sizeOf3
 v3 := Tryz.zeroValue3
 t4 := Tryz.underlying4
 a4 := Tryz.isAgg4
 z4 := Tryz.sizeOf4
 v4 := Tryz.zeroValue4
 t5 := Tryz.underlying5
 a5 := Tryz.isAgg5
 z5 := Tryz.sizeOf5
 v5 := Tryz.zeroValue5
 t9 := Tryz.underlying9
 a9 := Tryz.isAgg9
 z9 := Tryz.sizeOf9
 v9 := Tryz.zeroValue9 }
open Go.RowKit Go.Lib in
theorem Tryz.strings_LastIndexByte (s : ByteArray) (c : Int) (hs : s.size < 4611686018427387904) (w : World) :
 Calls Tryz.prog 163 #[.string s, .int .u8 c] w fun e w' => e = .returned (.int .i64 (Lib.lastIndexByte s c)) /\ w' = w := Any.strings_LastIndexByte Tryz.GY s c hs w
open Go.RowKit Go.Lib in
def Tryz.Bh : Go.Shelf.Ren := ⟨fun | 99 => 175 | 206 => 196 | n => n, fun | 9 => 9 | 4 => 4 | 3 => 3 | n => n, fun | n => n⟩
theorem Tryz.H9 : Go.Proofs.Lays.n99 Tryz.prog Tryz.Bh := {
 mixed := by kernel_rfl
 f99 := Tryz.func175.trans (congrArg some (by kernel_rfl))
 f206 := Tryz.func196.trans (congrArg some (by kernel_rfl))
 t3 := Tryz.underlying3
 a3 := Tryz.isAgg3
 z3 := Tryz.sizeOf3
 v3 := Tryz.zeroValue3
 t4 := Tryz.underlying4
 a4 := Tryz.isAgg4
 z4 := Tryz.sizeOf4
 v4 := Tryz.zeroValue4
 t9 := Tryz.underlying9
 a9 := Tryz.isAgg9
 z9 := Tryz.sizeOf9
 v9 := Tryz.zeroValue9 }
open Go.RowKit Go.Lib in
theorem Tryz.strings_HasPrefix (s p : ByteArray) (w : World) :
 Calls Tryz.prog 175 #[.string s, .string p] w fun e w' => e = .returned (.bool (Lib.hasPrefix s.data.toList p.data.toList)) /\ w' = w := Any.strings_HasPrefix Tryz.H9 s p w
open Go.RowKit Go.Lib in
def Tryz.zb : Go.Shelf.Ren := ⟨fun | 100 => 61 | 207 => 110 | n => n, fun | 9 => 9 | 4 => 4 | 3 => 3 | n => n, fun | n => n⟩
theorem Tryz.GV : Go.Proofs.Lays.n100 Tryz.prog Tryz.zb := {
 mixed := by kernel_rfl
 f100 := Tryz.func61.trans (congrArg some (by kernel_rfl))
 f207 := Tryz.func110.trans (congrArg some (by kernel_rfl))
 t3 := Tryz.underlying3
 a3 := Tryz.isAgg3
 z3 := Tryz.sizeOf3
 v3 := Tryz.zeroValue3
 t4 := Tryz.underlying4
 a4 := Tryz.isAgg4
 z4 := Tryz.sizeOf4
 v4 := Tryz.zeroValue4
 t9 := Tryz.underlying9
 a9 := Tryz.isAgg9
 z9 := Tryz.sizeOf9
 v9 := Tryz.zeroValue9 }
open Go.RowKit Go.Lib in
theorem Tryz.strings_HasSuffix (s p : ByteArray) (w : World) (hs : s.size <= 9223372036854775807) :
 Calls Tryz.prog 61 #[.string s, .string p] w fun e w' => e = .returned (.bool (Lib.hasSuffix s.data.toList p.data.toList)) /\ w' = w := Any.strings_HasSuffix Tryz.GV s p w hs
end Go.Proofs
