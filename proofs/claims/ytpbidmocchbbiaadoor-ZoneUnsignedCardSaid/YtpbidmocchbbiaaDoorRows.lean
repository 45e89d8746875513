/-
  NARROWER THAN 'FOR EVERY INPUT', by the rows' own cells (each row's printed sentence says how): ZoneNames: laid · ZoneDamage: laid · ZoneUnsigned: laid · ZoneCuts: laid.
  DERIVED. THE GIVEN ROWS OF THIS SEAT. 4 by the template 'for every input the law returns true; each argument reads behind the call as it read before'; 0 by the template 'total and deterministic' (their statements: YtpbidmocchbbiaaDoorTotals.lean).
  GIVEN WITH THE SEED: the statements are not yours to turn. If you find one false, say at which input.
  Laid BY PROGRAM, IN A SANDBOX (cutbox-rows.mjs): the forced cells as the released guide's own fill.sh prints them over the translation 31c1d332ad2b0769… (all of the seat's roots in one cut). By AI agents, Wed Nov 11 2026. No macro, syntax, notation, axiom, sorry.
-/
import Derived.Test.YtpbidmocchbbiaaDoorChecked
import GoSem.Claim
import GoSem.ClaimJoined
import GoSem.ClaimMapViews
import Derived.JoinedTies
import Derived.KernelRfl
namespace Go.Proofs.YtpbidmocchbbiaaDoor
/- THE CELL 'sum', in the pinned program and in every row, IS THE sha256 OF THE DUMP (.gsa) THAT YtpbidmocchbbiaaDoorProg.lean LOADS. Nothing in Lean hashes anything: it is a label: what it is worth is what the hold of that sum in a sandbox is worth. -/
noncomputable def Tryd.pinned : Pinned := { name := "ytpbidmocchbbiaadoor", sum := "31c1d332ad2b0769f7a4257d60960db260ecca7b7e825b8faa76cdb7fa75df65", checked := Tryd.checked }
namespace Rows
def none {H : Type} : Left H := { results := [], args := [] }

/- WHAT THE LISTED PACKAGE-LEVEL VARIABLES READ AS WHEN THE CALL BEGINS. Each datum BY PROGRAM (the guide's laid-datum.mjs) off the statement by which the dump's own 'gosem.cut.vars' lays the variable. In a bare row this is a premise. The card (YtpbidmocchbbiaaDoorCards.lean) ties it to the program's text. -/
def laid_nameplan_record_rules {H : Type} : DataW H := .agg [.agg [.lit (.int .i64 0), .lit (.int .i64 0), .lit (.int .i64 0), .lit (.int .i64 0), .lit (.int .i64 0), .lit (.bool false), .lit (.bool false), .lit (.bool false)], .agg [.lit (.int .i64 0), .lit (.int .i64 1), .lit (.int .i64 1000000), .lit (.int .i64 0), .lit (.int .i64 0), .lit (.bool false), .lit (.bool false), .lit (.bool true)], .agg [.lit (.int .i64 1), .lit (.int .i64 0), .lit (.int .i64 0), .lit (.int .i64 0), .lit (.int .i64 0), .lit (.bool false), .lit (.bool false), .lit (.bool false)], .agg [.lit (.int .i64 1), .lit (.int .i64 0), .lit (.int .i64 0), .lit (.int .i64 0), .lit (.int .i64 0), .lit (.bool false), .lit (.bool true), .lit (.bool false)], .agg [.lit (.int .i64 0), .lit (.int .i64 0), .lit (.int .i64 65535), .lit (.int .i64 0), .lit (.int .i64 100000), .lit (.bool false), .lit (.bool true), .lit (.bool false)], .agg [.lit (.int .i64 3), .lit (.int .i64 0), .lit (.int .i64 0), .lit (.int .i64 0), .lit (.int .i64 0), .lit (.bool false), .lit (.bool false), .lit (.bool true)], .agg [.lit (.int .i64 0), .lit (.int .i64 1), .lit (.int .i64 1000000), .lit (.int .i64 1), .lit (.int .i64 3), .lit (.bool false), .lit (.bool false), .lit (.bool false)], .agg [.lit (.int .i64 0), .lit (.int .i64 1), .lit (.int .i64 1000000), .lit (.int .i64 1), .lit (.int .i64 3), .lit (.bool false), .lit (.bool false), .lit (.bool false)], .agg [.lit (.int .i64 2), .lit (.int .i64 2), .lit (.int .i64 510), .lit (.int .i64 0), .lit (.int .i64 0), .lit (.bool true), .lit (.bool false), .lit (.bool true)]]

/-- 'nameplanlaw06.ZoneNames': WHATEVER THE INPUT: true; the input reads as it did. -/
def zoneNamesSpec : ChangeSpec := { name := "zoneNames", fn := fun _ => fun
  | [d] => { results := [.lit (.bool true)], args := [d] }
  | _ => none }
def zoneNamesRow : OpenClaim := { program := "ytpbidmocchbbiaadoor", sum := "31c1d332ad2b0769f7a4257d60960db260ecca7b7e825b8faa76cdb7fa75df65", func := "nameplan/nameplanlaw06.ZoneNames", spec := "zoneNames", inPlace := ["internal/bytealg.abigen_runtime_cmpstring", "internal/bytealg.IndexByteString", "slices.overlaps[nameplan/api.Signed]"], unfollowed := true, recurses := true, named := ["nameplan/record.rules"], apart := false, laid := [("nameplan/record.rules", laid_nameplan_record_rules)] }
def ZoneNamesSaid : Prop := zoneNamesRow.holds Tryd.pinned (OpenSpec.ofChange zoneNamesSpec)

/-- ITS FALSE NEIGHBOUR: 'it returns false'. Refute it at one input. -/
def zoneNamesWrong : ChangeSpec := { name := "zoneNames", fn := fun _ => fun
  | [d] => { results := [.lit (.bool false)], args := [d] }
  | _ => none }
def ZoneNamesWrongFalsely : Prop := zoneNamesRow.holds Tryd.pinned (OpenSpec.ofChange zoneNamesWrong)

/-- 'nameplanlaw06.ZoneDamage': WHATEVER THE INPUT: true; the input reads as it did. -/
def zoneDamageSpec : ChangeSpec := { name := "zoneDamage", fn := fun _ => fun
  | [d1, d2, d3] => { results := [.lit (.bool true)], args := [d1, d2, d3] }
  | _ => none }
def zoneDamageRow : OpenClaim := { program := "ytpbidmocchbbiaadoor", sum := "31c1d332ad2b0769f7a4257d60960db260ecca7b7e825b8faa76cdb7fa75df65", func := "nameplan/nameplanlaw06.ZoneDamage", spec := "zoneDamage", inPlace := ["internal/bytealg.abigen_runtime_cmpstring", "internal/bytealg.IndexByteString", "slices.overlaps[nameplan/api.Signed]"], unfollowed := true, recurses := true, named := ["nameplan/record.rules"], apart := false, laid := [("nameplan/record.rules", laid_nameplan_record_rules)] }
def ZoneDamageSaid : Prop := zoneDamageRow.holds Tryd.pinned (OpenSpec.ofChange zoneDamageSpec)

/-- ITS FALSE NEIGHBOUR: 'it returns false'. Refute it at one input. -/
def zoneDamageWrong : ChangeSpec := { name := "zoneDamage", fn := fun _ => fun
  | [d1, d2, d3] => { results := [.lit (.bool false)], args := [d1, d2, d3] }
  | _ => none }
def ZoneDamageWrongFalsely : Prop := zoneDamageRow.holds Tryd.pinned (OpenSpec.ofChange zoneDamageWrong)

/-- 'nameplanlaw06.ZoneUnsigned': WHATEVER THE INPUT: true; the input reads as it did. -/
def zoneUnsignedSpec : ChangeSpec := { name := "zoneUnsigned", fn := fun _ => fun
  | [d1, d2] => { results := [.lit (.bool true)], args := [d1, d2] }
  | _ => none }
def zoneUnsignedRow : OpenClaim := { program := "ytpbidmocchbbiaadoor", sum := "31c1d332ad2b0769f7a4257d60960db260ecca7b7e825b8faa76cdb7fa75df65", func := "nameplan/nameplanlaw06.ZoneUnsigned", spec := "zoneUnsigned", inPlace := ["internal/bytealg.abigen_runtime_cmpstring", "internal/bytealg.IndexByteString", "slices.overlaps[nameplan/api.Signed]"], unfollowed := true, recurses := true, named := ["nameplan/record.rules"], apart := false, laid := [("nameplan/record.rules", laid_nameplan_record_rules)] }
def ZoneUnsignedSaid : Prop := zoneUnsignedRow.holds Tryd.pinned (OpenSpec.ofChange zoneUnsignedSpec)

/-- ITS FALSE NEIGHBOUR: 'it returns false'. Refute it at one input. -/
def zoneUnsignedWrong : ChangeSpec := { name := "zoneUnsigned", fn := fun _ => fun
  | [d1, d2] => { results := [.lit (.bool false)], args := [d1, d2] }
  | _ => none }
def ZoneUnsignedWrongFalsely : Prop := zoneUnsignedRow.holds Tryd.pinned (OpenSpec.ofChange zoneUnsignedWrong)

/-- 'nameplanlaw06.ZoneCuts': WHATEVER THE INPUT: true; the input reads as it did. -/
def zoneCutsSpec : ChangeSpec := { name := "zoneCuts", fn := fun _ => fun
  | [d1, d2] => { results := [.lit (.bool true)], args := [d1, d2] }
  | _ => none }
def zoneCutsRow : OpenClaim := { program := "ytpbidmocchbbiaadoor", sum := "31c1d332ad2b0769f7a4257d60960db260ecca7b7e825b8faa76cdb7fa75df65", func := "nameplan/nameplanlaw06.ZoneCuts", spec := "zoneCuts", inPlace := ["internal/bytealg.abigen_runtime_cmpstring", "internal/bytealg.IndexByteString", "slices.overlaps[nameplan/api.Signed]"], unfollowed := true, recurses := true, named := ["nameplan/record.rules"], apart := false, laid := [("nameplan/record.rules", laid_nameplan_record_rules)] }
def ZoneCutsSaid : Prop := zoneCutsRow.holds Tryd.pinned (OpenSpec.ofChange zoneCutsSpec)

/-- ITS FALSE NEIGHBOUR: 'it returns false'. Refute it at one input. -/
def zoneCutsWrong : ChangeSpec := { name := "zoneCuts", fn := fun _ => fun
  | [d1, d2] => { results := [.lit (.bool false)], args := [d1, d2] }
  | _ => none }
def ZoneCutsWrongFalsely : Prop := zoneCutsRow.holds Tryd.pinned (OpenSpec.ofChange zoneCutsWrong)

/- THE SECOND FORM. 'bulk': how many values and letters a reading holds, each counted each time it is reached (what is shared counts as often as it is met; a slice's spare places count too). A statement '..UptoSaid' is the law's where the arguments, and the package variables that the reading takes, are together of bulk at most 1048576: NARROWER than '..Said'. Prove '..Said' where nothing that the law and all that it calls make is longer than what came in: it says more and counts as full. Else prove '..UptoSaid'. A law counts once. -/
mutual
def uptoBulk {H : Type} : DataW H → Nat
  | .lit (.string bytes) => bytes.length + 1
  | .lit _ => 1
  | .nil => 1
  | .ptr d => uptoBulk d + 1
  | .slice elems spare => uptoBulkAll elems + uptoBulkAll spare + 1
  | .agg parts => uptoBulkAll parts + 1
  | .iface _ d => uptoBulk d + 1
  | .map entries => uptoBulkEntries entries + 1
  | .held _ => 1
def uptoBulkAll {H : Type} : List (DataW H) → Nat
  | [] => 0
  | d :: r => uptoBulk d + uptoBulkAll r
def uptoBulkEntries {H : Type} : List (Lit × DataW H) → Nat
  | [] => 0
  | x :: r => uptoBulkEntry x + uptoBulkEntries r
def uptoBulkEntry {H : Type} : Lit × DataW H → Nat
  | (.string bytes, d) => bytes.length + uptoBulk d + 1
  | (_, d) => uptoBulk d + 1
 end
def uptoSmall : (H : Type) → List (DataW H) → Bool := fun _ ds => decide (uptoBulkAll ds ≤ 1048576)
def OpenSpec.upto (s : _root_.Go.ChangeSpec) : _root_.Go.OpenSpec := { _root_.Go.OpenSpec.ofChange s with cond := some uptoSmall }

/-- 'nameplanlaw06.ZoneNames', WHERE WHAT IT READS IS OF BULK AT MOST 1048576: true; the input reads as it did. -/
def zoneNamesUptoRow : OpenClaim := { program := "ytpbidmocchbbiaadoor", sum := "31c1d332ad2b0769f7a4257d60960db260ecca7b7e825b8faa76cdb7fa75df65", func := "nameplan/nameplanlaw06.ZoneNames", spec := "zoneNames", inPlace := ["internal/bytealg.abigen_runtime_cmpstring", "internal/bytealg.IndexByteString", "slices.overlaps[nameplan/api.Signed]"], unfollowed := true, recurses := true, named := ["nameplan/record.rules"], apart := false, laid := [("nameplan/record.rules", laid_nameplan_record_rules)], narrowed := true }
def ZoneNamesUptoSaid : Prop := zoneNamesUptoRow.holds Tryd.pinned (OpenSpec.upto zoneNamesSpec)

/-- 'nameplanlaw06.ZoneDamage', WHERE WHAT IT READS IS OF BULK AT MOST 1048576: true; the input reads as it did. -/
def zoneDamageUptoRow : OpenClaim := { program := "ytpbidmocchbbiaadoor", sum := "31c1d332ad2b0769f7a4257d60960db260ecca7b7e825b8faa76cdb7fa75df65", func := "nameplan/nameplanlaw06.ZoneDamage", spec := "zoneDamage", inPlace := ["internal/bytealg.abigen_runtime_cmpstring", "internal/bytealg.IndexByteString", "slices.overlaps[nameplan/api.Signed]"], unfollowed := true, recurses := true, named := ["nameplan/record.rules"], apart := false, laid := [("nameplan/record.rules", laid_nameplan_record_rules)], narrowed := true }
def ZoneDamageUptoSaid : Prop := zoneDamageUptoRow.holds Tryd.pinned (OpenSpec.upto zoneDamageSpec)

/-- 'nameplanlaw06.ZoneUnsigned', WHERE WHAT IT READS IS OF BULK AT MOST 1048576: true; the input reads as it did. -/
def zoneUnsignedUptoRow : OpenClaim := { program := "ytpbidmocchbbiaadoor", sum := "31c1d332ad2b0769f7a4257d60960db260ecca7b7e825b8faa76cdb7fa75df65", func := "nameplan/nameplanlaw06.ZoneUnsigned", spec := "zoneUnsigned", inPlace := ["internal/bytealg.abigen_runtime_cmpstring", "internal/bytealg.IndexByteString", "slices.overlaps[nameplan/api.Signed]"], unfollowed := true, recurses := true, named := ["nameplan/record.rules"], apart := false, laid := [("nameplan/record.rules", laid_nameplan_record_rules)], narrowed := true }
def ZoneUnsignedUptoSaid : Prop := zoneUnsignedUptoRow.holds Tryd.pinned (OpenSpec.upto zoneUnsignedSpec)

/-- 'nameplanlaw06.ZoneCuts', WHERE WHAT IT READS IS OF BULK AT MOST 1048576: true; the input reads as it did. -/
def zoneCutsUptoRow : OpenClaim := { program := "ytpbidmocchbbiaadoor", sum := "31c1d332ad2b0769f7a4257d60960db260ecca7b7e825b8faa76cdb7fa75df65", func := "nameplan/nameplanlaw06.ZoneCuts", spec := "zoneCuts", inPlace := ["internal/bytealg.abigen_runtime_cmpstring", "internal/bytealg.IndexByteString", "slices.overlaps[nameplan/api.Signed]"], unfollowed := true, recurses := true, named := ["nameplan/record.rules"], apart := false, laid := [("nameplan/record.rules", laid_nameplan_record_rules)], narrowed := true }
def ZoneCutsUptoSaid : Prop := zoneCutsUptoRow.holds Tryd.pinned (OpenSpec.upto zoneCutsSpec)

end Rows
end Go.Proofs.YtpbidmocchbbiaaDoor
