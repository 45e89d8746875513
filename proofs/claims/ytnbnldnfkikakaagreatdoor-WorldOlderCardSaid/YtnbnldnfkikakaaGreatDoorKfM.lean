/-
  Worlds out of what a statement reads.
-/
import Derived.Test.YtnbnldnfkikakaaGreatDoorMKc
import Derived.Test.YtnbnldnfkikakaaGreatDoorMGa
set_option linter.all false
set_option maxRecDepth 100000
namespace NP
open NQ Go
def F6 : List T := [.str, .int .i64, .int .i64]
def Aj : List T := [.int .i64, .str, .slice Aq]
def DP : List T := [.slice F6, .slice Aj, .str, .int .i64, .int .i64, .slice xk, .slice [.int .i64]]
theorem Cz {r : List D} (h : Fits F6 r) : ∃ x, r = du x := by
 obtain ⟨a, _, rfl, ha, h⟩ := h.cons
 obtain ⟨b, _, rfl, hb, h⟩ := h.cons
 obtain ⟨c, _, rfl, hc, h⟩ := h.cons
 obtain rfl := h.nil
 obtain ⟨a, rfl⟩ := kq ha; obtain ⟨b, rfl⟩ := db hb; obtain ⟨c, rfl⟩ := db hc
 exact ⟨⟨a, b, c⟩, rfl⟩
theorem y4 {r : List D} (h : Fits Aj r) : ∃ x, r = aQ x := by
 obtain ⟨a, _, rfl, ha, h⟩ := h.cons
 obtain ⟨b, _, rfl, hb, h⟩ := h.cons
 obtain ⟨c, _, rfl, hc, h⟩ := h.cons
 obtain rfl := h.nil
 obtain ⟨a, rfl⟩ := db ha; obtain ⟨b, rfl⟩ := kq hb
 obtain ⟨l, rfl⟩ := kA (fun _ => y5) hc
 exact ⟨⟨a, ⟨b, l⟩⟩, rfl⟩
theorem CA {r : List D} (h : Fits [.int .i64] r) : ∃ n : Int, r = [.int .i64 n] := by
 obtain ⟨a, _, rfl, ha, h⟩ := h.cons
 obtain rfl := h.nil
 obtain ⟨a, rfl⟩ := db ha
 exact ⟨a, rfl⟩
theorem AZ {r : List D} (h : Fits DP r) : ∃ x, r = bz x := by
 obtain ⟨a, _, rfl, ha, h⟩ := h.cons
 obtain ⟨b, _, rfl, hb, h⟩ := h.cons
 obtain ⟨c, _, rfl, hc, h⟩ := h.cons
 obtain ⟨d, _, rfl, hd, h⟩ := h.cons
 obtain ⟨e, _, rfl, he, h⟩ := h.cons
 obtain ⟨f, _, rfl, hf, h⟩ := h.cons
 obtain ⟨g, _, rfl, hg, h⟩ := h.cons
 obtain rfl := h.nil
 obtain ⟨a, rfl⟩ := kA (fun _ => Cz) ha
 obtain ⟨b, rfl⟩ := kA (fun _ => y4) hb
 obtain ⟨c, rfl⟩ := kq hc; obtain ⟨d, rfl⟩ := db hd; obtain ⟨e, rfl⟩ := db he
 obtain ⟨f, rfl⟩ := kA (fun _ => tz) hf
 obtain ⟨g, rfl⟩ := kA (fun _ => CA) hg
 exact ⟨⟨a, b, ⟨c, d, e, f⟩, g⟩, rfl⟩
end NP
namespace Go.Proofs.YtnbnldnfkikakaaGreatDoor
open NQ NP Go.RowKit Go.WideShapes
theorem I7 {H : Type} {enc : TypeId × Value -> H} {W : World} {r : Reach} {base : Nat} {v : Value} {d : DataW H} {ps : List MemPlace} (hv : Value.okWide Tryz.prog W r base 29 v) (h : DataW.Trod enc Tryz.prog W 0 (fun _ => true) true 29 v d ps) :
 ∃ z, Rep W (fun _ => False) (.agg (bz z)) v := by
 obtain ⟨ds, h1, h2⟩ := zK (cx := cx) (f := 10) (es := DP) az (by kernel_rfl) Tryz.underlying29 hv h
 obtain ⟨z, rfl⟩ := AZ h1
 exact ⟨z, h2⟩
theorem Jn {H : Type} {enc : TypeId × Value -> H} {W : World} {r : Reach} {base : Nat} {v : Value} {d : DataW H} {ps : List MemPlace} (hv : Value.okWide Tryz.prog W r base 69 v) (h : DataW.Trod enc Tryz.prog W 0 (fun _ => true) true 69 v d ps) :
 ∃ n, (Lit.int .u16 n).wf = true /\ Rep W (fun _ => False) (.int .u16 n) v := zL (cx := cx) (f := 8) az (by kernel_rfl) Tryz.underlying69 hv h
end Go.Proofs.YtnbnldnfkikakaaGreatDoor
