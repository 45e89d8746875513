/-
  Worlds out of what a statement reads.
-/
import Derived.Test.YtnbnldnfkikakaaGreatDoorMKc
import Derived.Test.YtnbnldnfkikakaaGreatDoorMGa
set_option linter.all false
set_option maxRecDepth 100000
namespace NP
open NQ Go
def GH : List T := [.str, .int .i64, .int .i64]
def AU : List T := [.int .i64, .str, .slice A2]
def El : List T := [.slice GH, .slice AU, .str, .int .i64, .int .i64, .slice xW, .slice [.int .i64]]
theorem De {r : List D} (h : Fits GH r) : ∃ x, r = dL x := by
 obtain ⟨a, _, rfl, ha, h⟩ := h.cons
 obtain ⟨b, _, rfl, hb, h⟩ := h.cons
 obtain ⟨c, _, rfl, hc, h⟩ := h.cons
 obtain rfl := h.nil
 obtain ⟨a, rfl⟩ := kN ha; obtain ⟨b, rfl⟩ := dA hb; obtain ⟨c, rfl⟩ := dA hc
 exact ⟨⟨a, b, c⟩, rfl⟩
theorem zG {r : List D} (h : Fits AU r) : ∃ x, r = aR x := by
 obtain ⟨a, _, rfl, ha, h⟩ := h.cons
 obtain ⟨b, _, rfl, hb, h⟩ := h.cons
 obtain ⟨c, _, rfl, hc, h⟩ := h.cons
 obtain rfl := h.nil
 obtain ⟨a, rfl⟩ := dA ha; obtain ⟨b, rfl⟩ := kN hb
 obtain ⟨l, rfl⟩ := kU (fun _ => zH) hc
 exact ⟨⟨a, ⟨b, l⟩⟩, rfl⟩
theorem Df {r : List D} (h : Fits [.int .i64] r) : ∃ n : Int, r = [.int .i64 n] := by
 obtain ⟨a, _, rfl, ha, h⟩ := h.cons
 obtain rfl := h.nil
 obtain ⟨a, rfl⟩ := dA ha
 exact ⟨a, rfl⟩
theorem By {r : List D} (h : Fits El r) : ∃ x, r = bH x := by
 obtain ⟨a, _, rfl, ha, h⟩ := h.cons
 obtain ⟨b, _, rfl, hb, h⟩ := h.cons
 obtain ⟨c, _, rfl, hc, h⟩ := h.cons
 obtain ⟨d, _, rfl, hd, h⟩ := h.cons
 obtain ⟨e, _, rfl, he, h⟩ := h.cons
 obtain ⟨f, _, rfl, hf, h⟩ := h.cons
 obtain ⟨g, _, rfl, hg, h⟩ := h.cons
 obtain rfl := h.nil
 obtain ⟨a, rfl⟩ := kU (fun _ => De) ha
 obtain ⟨b, rfl⟩ := kU (fun _ => zG) hb
 obtain ⟨c, rfl⟩ := kN hc; obtain ⟨d, rfl⟩ := dA hd; obtain ⟨e, rfl⟩ := dA he
 obtain ⟨f, rfl⟩ := kU (fun _ => tQ) hf
 obtain ⟨g, rfl⟩ := kU (fun _ => Df) hg
 exact ⟨⟨a, b, ⟨c, d, e, f⟩, g⟩, rfl⟩
end NP
namespace Go.Proofs.YtnbnldnfkikakaaGreatDoor
open NQ NP Go.RowKit Go.WideShapes
theorem JD {H : Type} {enc : TypeId × Value -> H} {W : World} {r : Reach} {base : Nat} {v : Value} {d : DataW H} {ps : List MemPlace} (hv : Value.okWide Tryz.prog W r base 29 v) (h : DataW.Trod enc Tryz.prog W 0 (fun _ => true) true 29 v d ps) :
 ∃ z, Rep W (fun _ => False) (.agg (bH z)) v := by
 obtain ⟨ds, h1, h2⟩ := Ar (cx := cx) (f := 10) (es := El) aB (by kernel_rfl) Tryz.underlying29 hv h
 obtain ⟨z, rfl⟩ := By h1
 exact ⟨z, h2⟩
end Go.Proofs.YtnbnldnfkikakaaGreatDoor
