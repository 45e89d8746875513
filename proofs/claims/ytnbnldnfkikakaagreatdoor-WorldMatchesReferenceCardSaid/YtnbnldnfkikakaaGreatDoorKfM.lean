/-
  Worlds out of what a statement reads.
-/
import Derived.Test.YtnbnldnfkikakaaGreatDoorMKc
import Derived.Test.YtnbnldnfkikakaaGreatDoorMGa
set_option linter.all false
set_option maxRecDepth 100000
namespace NP
open NQ Go
def GK : List T := [.str, .int .i64, .int .i64]
def Ar : List T := [.int .i64, .str, .slice Ak]
def Cv : List T := [.slice GK, .slice Ar, .str, .int .i64, .int .i64, .slice yI, .slice [.int .i64]]
theorem DH {r : List D} (h : Fits GK r) : ∃ x, r = dq x := by
 obtain ⟨a, _, rfl, ha, h⟩ := h.cons
 obtain ⟨b, _, rfl, hb, h⟩ := h.cons
 obtain ⟨c, _, rfl, hc, h⟩ := h.cons
 obtain rfl := h.nil
 obtain ⟨a, rfl⟩ := kS ha; obtain ⟨b, rfl⟩ := dD hb; obtain ⟨c, rfl⟩ := dD hc
 exact ⟨⟨a, b, c⟩, rfl⟩
theorem zX {r : List D} (h : Fits Ar r) : ∃ x, r = aI x := by
 obtain ⟨a, _, rfl, ha, h⟩ := h.cons
 obtain ⟨b, _, rfl, hb, h⟩ := h.cons
 obtain ⟨c, _, rfl, hc, h⟩ := h.cons
 obtain rfl := h.nil
 obtain ⟨a, rfl⟩ := dD ha; obtain ⟨b, rfl⟩ := kS hb
 obtain ⟨l, rfl⟩ := kL (fun _ => zW) hc
 exact ⟨⟨a, ⟨b, l⟩⟩, rfl⟩
theorem DG {r : List D} (h : Fits [.int .i64] r) : ∃ n : Int, r = [.int .i64 n] := by
 obtain ⟨a, _, rfl, ha, h⟩ := h.cons
 obtain rfl := h.nil
 obtain ⟨a, rfl⟩ := dD ha
 exact ⟨a, rfl⟩
theorem BZ {r : List D} (h : Fits Cv r) : ∃ x, r = bD x := by
 obtain ⟨a, _, rfl, ha, h⟩ := h.cons
 obtain ⟨b, _, rfl, hb, h⟩ := h.cons
 obtain ⟨c, _, rfl, hc, h⟩ := h.cons
 obtain ⟨d, _, rfl, hd, h⟩ := h.cons
 obtain ⟨e, _, rfl, he, h⟩ := h.cons
 obtain ⟨f, _, rfl, hf, h⟩ := h.cons
 obtain ⟨g, _, rfl, hg, h⟩ := h.cons
 obtain rfl := h.nil
 obtain ⟨a, rfl⟩ := kL (fun _ => DH) ha
 obtain ⟨b, rfl⟩ := kL (fun _ => zX) hb
 obtain ⟨c, rfl⟩ := kS hc; obtain ⟨d, rfl⟩ := dD hd; obtain ⟨e, rfl⟩ := dD he
 obtain ⟨f, rfl⟩ := kL (fun _ => uc) hf
 obtain ⟨g, rfl⟩ := kL (fun _ => DG) hg
 exact ⟨⟨a, b, ⟨c, d, e, f⟩, g⟩, rfl⟩
end NP
namespace Go.Proofs.YtnbnldnfkikakaaGreatDoor
open NQ NP Go.RowKit Go.WideShapes
theorem DZ {H : Type} {enc : TypeId × Value -> H} {W : World} {r : Reach} {base : Nat} {v : Value} {d : DataW H} {ps : List MemPlace} (hv : Value.okWide Tryz.prog W r base 29 v) (h : DataW.Trod enc Tryz.prog W 0 (fun _ => true) true 29 v d ps) :
 ∃ z, Rep W (fun _ => False) (.agg (bD z)) v := by
 obtain ⟨ds, h1, h2⟩ := AT (cx := cx) (f := 10) (es := Cv) ay (by kernel_rfl) Tryz.underlying29 hv h
 obtain ⟨z, rfl⟩ := BZ h1
 exact ⟨z, h2⟩
end Go.Proofs.YtnbnldnfkikakaaGreatDoor
