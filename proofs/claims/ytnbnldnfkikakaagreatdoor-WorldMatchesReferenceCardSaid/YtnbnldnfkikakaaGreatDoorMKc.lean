/-
  Texts of the proof of the law WorldMatchesReference, merged in build order.
-/
import Derived.Test.YtnbnldnfkikakaaGreatDoorKbM
import Derived.Test.YtnbnldnfkikakaaGreatDoorMVa
import Derived.Test.YtnbnldnfkikakaaGreatDoorRows
set_option linter.all false
set_option maxRecDepth 100000
namespace NP
open NQ Go
def yI : List T := [.str, .int .i64, .int .i64]
def IG : List T := [.str, .int .i64, .int .i64, .int .i64, .int .i64, .int .u64]
def Ak : List T := [.str, .int .i64, .int .i64, .slice yI, .slice IG]
def C7 : List T := [.str, .int .i64]
theorem uc {r : List D} (h : Fits yI r) : ∃ x, r = bB x := by
 obtain ⟨a, _, rfl, ha, h⟩ := h.cons
 obtain ⟨b, _, rfl, hb, h⟩ := h.cons
 obtain ⟨c, _, rfl, hc, h⟩ := h.cons
 obtain rfl := h.nil
 obtain ⟨a, rfl⟩ := kS ha; obtain ⟨b, rfl⟩ := dD hb; obtain ⟨c, rfl⟩ := dD hc
 exact ⟨⟨a, b, c⟩, rfl⟩
theorem FC {r : List D} (h : Fits IG r) : ∃ x, r = jf x := by
 obtain ⟨a, _, rfl, ha, h⟩ := h.cons
 obtain ⟨b, _, rfl, hb, h⟩ := h.cons
 obtain ⟨c, _, rfl, hc, h⟩ := h.cons
 obtain ⟨d, _, rfl, hd, h⟩ := h.cons
 obtain ⟨e, _, rfl, he, h⟩ := h.cons
 obtain ⟨f, _, rfl, hf, h⟩ := h.cons
 obtain rfl := h.nil
 obtain ⟨a, rfl⟩ := kS ha; obtain ⟨b, rfl⟩ := dD hb; obtain ⟨c, rfl⟩ := dD hc; obtain ⟨d, rfl⟩ := dD hd; obtain ⟨e, rfl⟩ := dD he; obtain ⟨f, rfl⟩ := dD hf
 exact ⟨⟨a, b, c, d, e, f⟩, rfl⟩
theorem zW {r : List D} (h : Fits Ak r) : ∃ x, r = ag x := by
 obtain ⟨a, _, rfl, ha, h⟩ := h.cons
 obtain ⟨b, _, rfl, hb, h⟩ := h.cons
 obtain ⟨c, _, rfl, hc, h⟩ := h.cons
 obtain ⟨d, _, rfl, hd, h⟩ := h.cons
 obtain ⟨e, _, rfl, he, h⟩ := h.cons
 obtain rfl := h.nil
 obtain ⟨a, rfl⟩ := kS ha; obtain ⟨b, rfl⟩ := dD hb; obtain ⟨c, rfl⟩ := dD hc
 obtain ⟨l, rfl⟩ := kL (fun _ => uc) hd
 obtain ⟨m, rfl⟩ := kL (fun _ => FC) he
 exact ⟨⟨⟨a, b, c, l⟩, m⟩, rfl⟩
theorem B3 {r : List D} (h : Fits C7 r) : ∃ x, r = bq x := by
 obtain ⟨a, _, rfl, ha, h⟩ := h.cons
 obtain ⟨b, _, rfl, hb, h⟩ := h.cons
 obtain rfl := h.nil
 obtain ⟨a, rfl⟩ := kS ha; obtain ⟨b, rfl⟩ := dD hb
 exact ⟨⟨a, b⟩, rfl⟩
end NP
namespace Go.Proofs.YtnbnldnfkikakaaGreatDoor
open NQ NP Go.RowKit Go.WideShapes
theorem own : ownKnob Tryz.prog.godebug = none := by kernel_rfl
theorem laidOut : laidOutB Tryz.prog = true := by kernel_rfl
theorem G5 : Tryz.prog.globalNamed "nameplan/record.rules" = some 0 := by kernel_rfl
theorem BT {W : World} (h : laidMetH Tryz.prog [("nameplan/record.rules", Rows.laid_nameplan_record_rules)] W) : eR cx W :=
 Fs (cx := cx) (t := 172) (g := 0) (f := 8) (cells := pO) (es := (NQ.shape cx.ty 8 172).getD []) ay
  (fun x cs hx => by
   have hx : NQ.find BU x = some cs := hx
   unfold BU NQ.find at hx
   split at hx
   . rename_i hb; cases hx; exact ⟨(Nat.eq_of_beq_eq_true hb).symm, rfl⟩
   . cases hx) G5 (by kernel_rfl) (by kernel_rfl) (by kernel_rfl) (by kernel_rfl) (by kernel_rfl) h
theorem Jn {H : Type} {enc : TypeId × Value -> H} {W : World} {r : Reach} {base : Nat} {v : Value} {d : DataW H} {ps : List MemPlace} (hv : Value.okWide Tryz.prog W r base 9 v) (h : DataW.Trod enc Tryz.prog W 0 (fun _ => true) true 9 v d ps) :
 ∃ s, Rep W (fun _ => False) (.str s) v := arg_str (cx := cx) (f := 8) ay (by kernel_rfl) Tryz.underlying9 hv h
end Go.Proofs.YtnbnldnfkikakaaGreatDoor

set_option maxRecDepth 100000
namespace Go.Proofs.YtnbnldnfkikakaaGreatDoor
open NQ NP Go.RowKit Go.WideShapes
theorem D0 {H : Type} {enc : TypeId × Value -> H} {W : World} {r : Reach} {base : Nat} {v : Value} {d : DataW H} {ps : List MemPlace} (hv : Value.okWide Tryz.prog W r base 31 v) (h : DataW.Trod enc Tryz.prog W 0 (fun _ => true) true 31 v d ps) :
 ∃ z, Rep W (fun _ => False) (.agg (bq z)) v := by
 obtain ⟨ds, h1, h2⟩ := AT (cx := cx) (f := 8) (es := C7) ay (by kernel_rfl) Tryz.underlying31 hv h
 obtain ⟨z, rfl⟩ := B3 h1
 exact ⟨z, h2⟩
theorem Jo {H : Type} {enc : TypeId × Value -> H} {W : World} {r : Reach} {base : Nat} {v : Value} {d : DataW H} {ps : List MemPlace} (hv : Value.okWide Tryz.prog W r base 3 v) (h : DataW.Trod enc Tryz.prog W 0 (fun _ => true) true 3 v d ps) :
 ∃ n, (Lit.int .i64 n).wf = true /\ Rep W (fun _ => False) (.int .i64 n) v := Ip (cx := cx) (f := 8) ay (by kernel_rfl) Tryz.underlying3 hv h
end Go.Proofs.YtnbnldnfkikakaaGreatDoor
