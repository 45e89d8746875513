/-
  Texts of the proof, merged in build order.
-/
import Derived.Test.YtnbnldnfkikakaaGreatDoorKbM
import Derived.Test.YtnbnldnfkikakaaGreatDoorMVa
import Derived.Test.YtnbnldnfkikakaaGreatDoorRows
set_option linter.all false
set_option maxRecDepth 100000
namespace NP
open NQ Go
def xW : List T := [.str, .int .i64, .int .i64]
def I4 : List T := [.str, .int .i64, .int .i64, .int .i64, .int .i64, .int .u64]
def A2 : List T := [.str, .int .i64, .int .i64, .slice xW, .slice I4]
def DM : List T := [.str, .int .i64]
theorem tQ {r : List D} (h : Fits xW r) : ∃ x, r = bG x := by
 obtain ⟨a, _, rfl, ha, h⟩ := h.cons
 obtain ⟨b, _, rfl, hb, h⟩ := h.cons
 obtain ⟨c, _, rfl, hc, h⟩ := h.cons
 obtain rfl := h.nil
 obtain ⟨a, rfl⟩ := kN ha; obtain ⟨b, rfl⟩ := dA hb; obtain ⟨c, rfl⟩ := dA hc
 exact ⟨⟨a, b, c⟩, rfl⟩
theorem Fm {r : List D} (h : Fits I4 r) : ∃ x, r = jk x := by
 obtain ⟨a, _, rfl, ha, h⟩ := h.cons
 obtain ⟨b, _, rfl, hb, h⟩ := h.cons
 obtain ⟨c, _, rfl, hc, h⟩ := h.cons
 obtain ⟨d, _, rfl, hd, h⟩ := h.cons
 obtain ⟨e, _, rfl, he, h⟩ := h.cons
 obtain ⟨f, _, rfl, hf, h⟩ := h.cons
 obtain rfl := h.nil
 obtain ⟨a, rfl⟩ := kN ha; obtain ⟨b, rfl⟩ := dA hb; obtain ⟨c, rfl⟩ := dA hc; obtain ⟨d, rfl⟩ := dA hd; obtain ⟨e, rfl⟩ := dA he; obtain ⟨f, rfl⟩ := dA hf
 exact ⟨⟨a, b, c, d, e, f⟩, rfl⟩
theorem zH {r : List D} (h : Fits A2 r) : ∃ x, r = ag x := by
 obtain ⟨a, _, rfl, ha, h⟩ := h.cons
 obtain ⟨b, _, rfl, hb, h⟩ := h.cons
 obtain ⟨c, _, rfl, hc, h⟩ := h.cons
 obtain ⟨d, _, rfl, hd, h⟩ := h.cons
 obtain ⟨e, _, rfl, he, h⟩ := h.cons
 obtain rfl := h.nil
 obtain ⟨a, rfl⟩ := kN ha; obtain ⟨b, rfl⟩ := dA hb; obtain ⟨c, rfl⟩ := dA hc
 obtain ⟨l, rfl⟩ := kU (fun _ => tQ) hd
 obtain ⟨m, rfl⟩ := kU (fun _ => Fm) he
 exact ⟨⟨⟨a, b, c, l⟩, m⟩, rfl⟩
theorem Bx {r : List D} (h : Fits DM r) : ∃ x, r = bA x := by
 obtain ⟨a, _, rfl, ha, h⟩ := h.cons
 obtain ⟨b, _, rfl, hb, h⟩ := h.cons
 obtain rfl := h.nil
 obtain ⟨a, rfl⟩ := kN ha; obtain ⟨b, rfl⟩ := dA hb
 exact ⟨⟨a, b⟩, rfl⟩
end NP
namespace Go.Proofs.YtnbnldnfkikakaaGreatDoor
open NQ NP Go.RowKit Go.WideShapes
theorem own : ownKnob Tryz.prog.godebug = none := by kernel_rfl
theorem laidOut : laidOutB Tryz.prog = true := by kernel_rfl
theorem Il : Tryz.prog.globalNamed "nameplan/record.rules" = some 0 := by kernel_rfl
theorem Jq {W : World} (h : laidMetH Tryz.prog [("nameplan/record.rules", Rows.laid_nameplan_record_rules)] W) : eI cx W :=
 Fy (cx := cx) (t := 172) (g := 0) (f := 8) (cells := uo) (es := (NQ.shape cx.ty 8 172).getD []) aB
  (fun x cs hx => by
   have hx : NQ.find BC x = some cs := hx
   unfold BC NQ.find at hx
   split at hx
   . rename_i hb; cases hx; exact ⟨(Nat.eq_of_beq_eq_true hb).symm, rfl⟩
   . cases hx) Il (by kernel_rfl) (by kernel_rfl) (by kernel_rfl) (by kernel_rfl) (by kernel_rfl) h
theorem JW {H : Type} {enc : TypeId × Value -> H} {W : World} {r : Reach} {base : Nat} {v : Value} {d : DataW H} {ps : List MemPlace} (hv : Value.okWide Tryz.prog W r base 9 v) (h : DataW.Trod enc Tryz.prog W 0 (fun _ => true) true 9 v d ps) :
 ∃ s, Rep W (fun _ => False) (.str s) v := arg_str (cx := cx) (f := 8) aB (by kernel_rfl) Tryz.underlying9 hv h
theorem JV {H : Type} {enc : TypeId × Value -> H} {W : World} {r : Reach} {base : Nat} {v : Value} {d : DataW H} {ps : List MemPlace} (hv : Value.okWide Tryz.prog W r base 5 v) (h : DataW.Trod enc Tryz.prog W 0 (fun _ => true) true 5 v d ps) :
 ∃ n, (Lit.int .u8 n).wf = true /\ Rep W (fun _ => False) (.int .u8 n) v := G2 (cx := cx) (f := 8) aB (by kernel_rfl) Tryz.underlying5 hv h
end Go.Proofs.YtnbnldnfkikakaaGreatDoor

set_option maxRecDepth 100000
namespace Go.Proofs.YtnbnldnfkikakaaGreatDoor
open NQ NP Go.RowKit Go.WideShapes
theorem JC {H : Type} {enc : TypeId × Value -> H} {W : World} {r : Reach} {base : Nat} {v : Value} {d : DataW H} {ps : List MemPlace} (hv : Value.okWide Tryz.prog W r base 31 v) (h : DataW.Trod enc Tryz.prog W 0 (fun _ => true) true 31 v d ps) :
 ∃ z, Rep W (fun _ => False) (.agg (bA z)) v := by
 obtain ⟨ds, h1, h2⟩ := Ar (cx := cx) (f := 8) (es := DM) aB (by kernel_rfl) Tryz.underlying31 hv h
 obtain ⟨z, rfl⟩ := Bx h1
 exact ⟨z, h2⟩
end Go.Proofs.YtnbnldnfkikakaaGreatDoor
