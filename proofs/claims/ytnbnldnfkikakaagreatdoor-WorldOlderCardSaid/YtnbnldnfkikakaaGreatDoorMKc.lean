/-
  Texts of the proof, merged in build order.
-/
import Derived.Test.YtnbnldnfkikakaaGreatDoorKbM
import Derived.Test.YtnbnldnfkikakaaGreatDoorMVa
import Derived.Test.YtnbnldnfkikakaaGreatDoorRows
set_option linter.all false
set_option maxRecDepth 100000
namespace NP
open NQ Go
def xk : List T := [.str, .int .i64, .int .i64]
def Ir : List T := [.str, .int .i64, .int .i64, .int .i64, .int .i64, .int .u64]
def Aq : List T := [.str, .int .i64, .int .i64, .slice xk, .slice Ir]
def Dd : List T := [.str, .int .i64]
theorem tz {r : List D} (h : Fits xk r) : ∃ x, r = bP x := by
 obtain ⟨a, _, rfl, ha, h⟩ := h.cons
 obtain ⟨b, _, rfl, hb, h⟩ := h.cons
 obtain ⟨c, _, rfl, hc, h⟩ := h.cons
 obtain rfl := h.nil
 obtain ⟨a, rfl⟩ := kq ha; obtain ⟨b, rfl⟩ := db hb; obtain ⟨c, rfl⟩ := db hc
 exact ⟨⟨a, b, c⟩, rfl⟩
theorem EM {r : List D} (h : Fits Ir r) : ∃ x, r = iQ x := by
 obtain ⟨a, _, rfl, ha, h⟩ := h.cons
 obtain ⟨b, _, rfl, hb, h⟩ := h.cons
 obtain ⟨c, _, rfl, hc, h⟩ := h.cons
 obtain ⟨d, _, rfl, hd, h⟩ := h.cons
 obtain ⟨e, _, rfl, he, h⟩ := h.cons
 obtain ⟨f, _, rfl, hf, h⟩ := h.cons
 obtain rfl := h.nil
 obtain ⟨a, rfl⟩ := kq ha; obtain ⟨b, rfl⟩ := db hb; obtain ⟨c, rfl⟩ := db hc; obtain ⟨d, rfl⟩ := db hd; obtain ⟨e, rfl⟩ := db he; obtain ⟨f, rfl⟩ := db hf
 exact ⟨⟨a, b, c, d, e, f⟩, rfl⟩
theorem y5 {r : List D} (h : Fits Aq r) : ∃ x, r = aj x := by
 obtain ⟨a, _, rfl, ha, h⟩ := h.cons
 obtain ⟨b, _, rfl, hb, h⟩ := h.cons
 obtain ⟨c, _, rfl, hc, h⟩ := h.cons
 obtain ⟨d, _, rfl, hd, h⟩ := h.cons
 obtain ⟨e, _, rfl, he, h⟩ := h.cons
 obtain rfl := h.nil
 obtain ⟨a, rfl⟩ := kq ha; obtain ⟨b, rfl⟩ := db hb; obtain ⟨c, rfl⟩ := db hc
 obtain ⟨l, rfl⟩ := kA (fun _ => tz) hd
 obtain ⟨m, rfl⟩ := kA (fun _ => EM) he
 exact ⟨⟨⟨a, b, c, l⟩, m⟩, rfl⟩
theorem AY {r : List D} (h : Fits Dd r) : ∃ x, r = bE x := by
 obtain ⟨a, _, rfl, ha, h⟩ := h.cons
 obtain ⟨b, _, rfl, hb, h⟩ := h.cons
 obtain rfl := h.nil
 obtain ⟨a, rfl⟩ := kq ha; obtain ⟨b, rfl⟩ := db hb
 exact ⟨⟨a, b⟩, rfl⟩
end NP
namespace Go.Proofs.YtnbnldnfkikakaaGreatDoor
open NQ NP Go.RowKit Go.WideShapes
theorem own : ownKnob Tryz.prog.godebug = none := by kernel_rfl
theorem laidOut : laidOutB Tryz.prog = true := by kernel_rfl
theorem Hk : Tryz.prog.globalNamed "nameplan/record.rules" = some 0 := by kernel_rfl
theorem IT {W : World} (h : laidMetH Tryz.prog [("nameplan/record.rules", Rows.laid_nameplan_record_rules)] W) : eH cx W :=
 EX (cx := cx) (t := 172) (g := 0) (f := 8) (cells := tQ) (es := (NQ.shape cx.ty 8 172).getD []) az
  (fun x cs hx => by
   have hx : NQ.find A3 x = some cs := hx
   unfold A3 NQ.find at hx
   split at hx
   . rename_i hb; cases hx; exact ⟨(Nat.eq_of_beq_eq_true hb).symm, rfl⟩
   . cases hx) Hk (by kernel_rfl) (by kernel_rfl) (by kernel_rfl) (by kernel_rfl) (by kernel_rfl) h
theorem Js {H : Type} {enc : TypeId × Value -> H} {W : World} {r : Reach} {base : Nat} {v : Value} {d : DataW H} {ps : List MemPlace} (hv : Value.okWide Tryz.prog W r base 5 v) (h : DataW.Trod enc Tryz.prog W 0 (fun _ => true) true 5 v d ps) :
 ∃ n, (Lit.int .u8 n).wf = true /\ Rep W (fun _ => False) (.int .u8 n) v := zL (cx := cx) (f := 8) az (by kernel_rfl) Tryz.underlying5 hv h
end Go.Proofs.YtnbnldnfkikakaaGreatDoor

set_option maxRecDepth 100000
namespace Go.Proofs.YtnbnldnfkikakaaGreatDoor
open NQ NP Go.RowKit Go.WideShapes
theorem I6 {H : Type} {enc : TypeId × Value -> H} {W : World} {r : Reach} {base : Nat} {v : Value} {d : DataW H} {ps : List MemPlace} (hv : Value.okWide Tryz.prog W r base 31 v) (h : DataW.Trod enc Tryz.prog W 0 (fun _ => true) true 31 v d ps) :
 ∃ z, Rep W (fun _ => False) (.agg (bE z)) v := by
 obtain ⟨ds, h1, h2⟩ := zK (cx := cx) (f := 8) (es := Dd) az (by kernel_rfl) Tryz.underlying31 hv h
 obtain ⟨z, rfl⟩ := AY h1
 exact ⟨z, h2⟩
end Go.Proofs.YtnbnldnfkikakaaGreatDoor
