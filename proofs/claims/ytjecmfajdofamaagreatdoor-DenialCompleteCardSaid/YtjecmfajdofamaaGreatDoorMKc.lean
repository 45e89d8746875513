/-
  Texts of the proof of the law DenialComplete, merged in build order.
-/
import Derived.Test.YtjecmfajdofamaaGreatDoorKbM
import Derived.Test.YtjecmfajdofamaaGreatDoorMVa
import Derived.Test.YtjecmfajdofamaaGreatDoorRows
/-
  Zones, sets and questions out of what a statement reads; the package variable record.rules.
-/
set_option linter.unusedSimpArgs false
set_option linter.unusedVariables false
set_option maxRecDepth 100000
namespace NP
open NQ Go
def datumT : List T := [.str, .int .i64, .int .i64]
def sigT : List T := [.str, .int .i64, .int .i64, .int .i64, .int .i64, .int .u64]
def signedT : List T := [.str, .int .i64, .int .i64, .slice datumT, .slice sigT]
def zoneT : List T := [.str, .slice signedT]
def questT : List T := [.str, .int .i64]
theorem fits_datum {r : List D} (h : Fits datumT r) : ∃ x, r = datumD x := by
  obtain ⟨a, _, rfl, ha, h⟩ := h.cons
  obtain ⟨b, _, rfl, hb, h⟩ := h.cons
  obtain ⟨c, _, rfl, hc, h⟩ := h.cons
  obtain rfl := h.nil
  obtain ⟨a, rfl⟩ := fit_str ha; obtain ⟨b, rfl⟩ := fit_int hb; obtain ⟨c, rfl⟩ := fit_int hc
  exact ⟨⟨a, b, c⟩, rfl⟩
theorem fits_sig {r : List D} (h : Fits sigT r) : ∃ x, r = sigD x := by
  obtain ⟨a, _, rfl, ha, h⟩ := h.cons
  obtain ⟨b, _, rfl, hb, h⟩ := h.cons
  obtain ⟨c, _, rfl, hc, h⟩ := h.cons
  obtain ⟨d, _, rfl, hd, h⟩ := h.cons
  obtain ⟨e, _, rfl, he, h⟩ := h.cons
  obtain ⟨f, _, rfl, hf, h⟩ := h.cons
  obtain rfl := h.nil
  obtain ⟨a, rfl⟩ := fit_str ha; obtain ⟨b, rfl⟩ := fit_int hb; obtain ⟨c, rfl⟩ := fit_int hc; obtain ⟨d, rfl⟩ := fit_int hd; obtain ⟨e, rfl⟩ := fit_int he; obtain ⟨f, rfl⟩ := fit_int hf
  exact ⟨⟨a, b, c, d, e, f⟩, rfl⟩
theorem fits_signed {r : List D} (h : Fits signedT r) : ∃ x, r = signedD x := by
  obtain ⟨a, _, rfl, ha, h⟩ := h.cons
  obtain ⟨b, _, rfl, hb, h⟩ := h.cons
  obtain ⟨c, _, rfl, hc, h⟩ := h.cons
  obtain ⟨d, _, rfl, hd, h⟩ := h.cons
  obtain ⟨e, _, rfl, he, h⟩ := h.cons
  obtain rfl := h.nil
  obtain ⟨a, rfl⟩ := fit_str ha; obtain ⟨b, rfl⟩ := fit_int hb; obtain ⟨c, rfl⟩ := fit_int hc
  obtain ⟨l, rfl⟩ := rows_of (fun _ => fits_datum) hd
  obtain ⟨m, rfl⟩ := rows_of (fun _ => fits_sig) he
  exact ⟨⟨⟨a, b, c, l⟩, m⟩, rfl⟩
theorem fits_zone {r : List D} (h : Fits zoneT r) : ∃ x, r = zoneD x := by
  obtain ⟨a, _, rfl, ha, h⟩ := h.cons
  obtain ⟨b, _, rfl, hb, h⟩ := h.cons
  obtain rfl := h.nil
  obtain ⟨a, rfl⟩ := fit_str ha
  obtain ⟨l, rfl⟩ := rows_of (fun _ => fits_signed) hb
  exact ⟨⟨a, l⟩, rfl⟩
theorem fits_quest {r : List D} (h : Fits questT r) : ∃ x, r = questD x := by
  obtain ⟨a, _, rfl, ha, h⟩ := h.cons
  obtain ⟨b, _, rfl, hb, h⟩ := h.cons
  obtain rfl := h.nil
  obtain ⟨a, rfl⟩ := fit_str ha; obtain ⟨b, rfl⟩ := fit_int hb
  exact ⟨⟨a, b⟩, rfl⟩
end NP
namespace Go.Proofs.YtjecmfajdofamaaGreatDoor
open NQ NP Go.RowKit Go.WideShapes

theorem own : ownKnob Tryz.prog.godebug = none := by kernel_rfl
theorem laidOut : laidOutB Tryz.prog = true := by kernel_rfl
theorem rulesAt : Tryz.prog.globalNamed "nameplan/record.rules" = some 0 := by kernel_rfl
theorem glob_rules {W : World} (h : laidMetH Tryz.prog [("nameplan/record.rules", Rows.laid_nameplan_record_rules)] W) : Glob cx W :=
  glob_one (cx := cx) (t := 193) (g := 0) (f := 8) (cells := rulesD) (es := (NQ.shape cx.ty 8 193).getD []) tyOk
    (fun x cs hx => by
      have hx : NQ.find glTab x = some cs := hx
      unfold glTab NQ.find at hx
      split at hx
      · rename_i hb; cases hx; exact ⟨(Nat.eq_of_beq_eq_true hb).symm, rfl⟩
      · cases hx) rulesAt (by kernel_rfl) (by kernel_rfl) (by kernel_rfl) (by kernel_rfl) (by kernel_rfl) h
theorem arg_zone {H : Type} {enc : TypeId × Value → H} {W : World} {r : Reach} {base : Nat} {v : Value} {d : DataW H} {ps : List MemPlace} (hv : Value.okWide Tryz.prog W r base 24 v) (h : DataW.Trod enc Tryz.prog W 0 (fun _ => true) true 24 v d ps) :
    ∃ z, Rep W (fun _ => False) (.agg (zoneD z)) v := by
  obtain ⟨ds, h1, h2⟩ := arg_agg (cx := cx) (f := 8) (es := zoneT) tyOk (by kernel_rfl) Tryz.underlying24 hv h
  obtain ⟨z, rfl⟩ := fits_zone h1
  exact ⟨z, h2⟩
end Go.Proofs.YtjecmfajdofamaaGreatDoor

/-
  Sets, questions and integers out of what a statement reads.
-/
set_option linter.unusedSimpArgs false
set_option linter.unusedVariables false
set_option maxRecDepth 100000
namespace Go.Proofs.YtjecmfajdofamaaGreatDoor
open NQ NP Go.RowKit Go.WideShapes
theorem arg_quest {H : Type} {enc : TypeId × Value → H} {W : World} {r : Reach} {base : Nat} {v : Value} {d : DataW H} {ps : List MemPlace} (hv : Value.okWide Tryz.prog W r base 44 v) (h : DataW.Trod enc Tryz.prog W 0 (fun _ => true) true 44 v d ps) :
    ∃ z, Rep W (fun _ => False) (.agg (questD z)) v := by
  obtain ⟨ds, h1, h2⟩ := arg_agg (cx := cx) (f := 8) (es := questT) tyOk (by kernel_rfl) Tryz.underlying44 hv h
  obtain ⟨z, rfl⟩ := fits_quest h1
  exact ⟨z, h2⟩
end Go.Proofs.YtjecmfajdofamaaGreatDoor
