/-
  NARROWER THAN 'FOR EVERY INPUT', by the rows' own cells (each row's printed sentence says how): LameMatchesReference: laid · LameOrder: laid · LameMended: laid · LoopsReaching: laid · LameServers: laid · LameShown: laid · LameNone: laid · LoopsNeeds: laid.
  DERIVED. THE GIVEN ROWS OF THIS SEAT. 8 by the template 'for every input the law returns true; each argument reads behind the call as it read before'; 0 by the template 'total and deterministic' (their statements: YtjapjahfllomkaaGreatDoorTotals.lean).
  GIVEN WITH THE SEED: the statements are not yours to turn. If you find one false, say at which input.
  Laid BY PROGRAM, IN A SANDBOX (cutbox-rows.mjs): the forced cells as the released guide's own fill.sh prints them over the translation b4b749142ed42a6c… (all of the seat's roots in one cut). By AI agents, Wed Nov 11 2026. No macro, syntax, notation, axiom, sorry.
-/
import Derived.Test.YtjapjahfllomkaaGreatDoorChecked
import GoSem.Claim
import GoSem.ClaimJoined
import GoSem.ClaimMapViews
import Derived.JoinedTies
import Derived.KernelRfl
namespace Go.Proofs.YtjapjahfllomkaaGreatDoor
/- THE CELL 'sum', in the pinned program and in every row, IS THE sha256 OF THE DUMP (.gsa) THAT YtjapjahfllomkaaGreatDoorProg.lean LOADS. Nothing in Lean hashes anything: it is a label: what it is worth is what the hold of that sum in a sandbox is worth. -/
noncomputable def Tryz.pinned : Pinned := { name := "ytjapjahfllomkaagreatdoor", sum := "b4b749142ed42a6cd93305d50849f1b8218678115cc8953b67b68555cbafaae1", checked := Tryz.checked }
namespace Rows
def none {H : Type} : Left H := { results := [], args := [] }

/- WHAT THE LISTED PACKAGE-LEVEL VARIABLES READ AS WHEN THE CALL BEGINS. Each datum BY PROGRAM (the guide's laid-datum.mjs) off the statement by which the dump's own 'gosem.cut.vars' lays the variable. In a bare row this is a premise. The card (YtjapjahfllomkaaGreatDoorCards.lean) ties it to the program's text. -/
def laid_nameplan_record_rules {H : Type} : DataW H := .agg [.agg [.lit (.int .i64 0), .lit (.int .i64 0), .lit (.int .i64 0), .lit (.int .i64 0), .lit (.int .i64 0), .lit (.bool false), .lit (.bool false), .lit (.bool false)], .agg [.lit (.int .i64 0), .lit (.int .i64 1), .lit (.int .i64 1000000), .lit (.int .i64 0), .lit (.int .i64 0), .lit (.bool false), .lit (.bool false), .lit (.bool true)], .agg [.lit (.int .i64 1), .lit (.int .i64 0), .lit (.int .i64 0), .lit (.int .i64 0), .lit (.int .i64 0), .lit (.bool false), .lit (.bool false), .lit (.bool false)], .agg [.lit (.int .i64 1), .lit (.int .i64 0), .lit (.int .i64 0), .lit (.int .i64 0), .lit (.int .i64 0), .lit (.bool false), .lit (.bool true), .lit (.bool false)], .agg [.lit (.int .i64 0), .lit (.int .i64 0), .lit (.int .i64 65535), .lit (.int .i64 0), .lit (.int .i64 100000), .lit (.bool false), .lit (.bool true), .lit (.bool false)], .agg [.lit (.int .i64 3), .lit (.int .i64 0), .lit (.int .i64 0), .lit (.int .i64 0), .lit (.int .i64 0), .lit (.bool false), .lit (.bool false), .lit (.bool true)], .agg [.lit (.int .i64 0), .lit (.int .i64 1), .lit (.int .i64 1000000), .lit (.int .i64 1), .lit (.int .i64 3), .lit (.bool false), .lit (.bool false), .lit (.bool false)], .agg [.lit (.int .i64 0), .lit (.int .i64 1), .lit (.int .i64 1000000), .lit (.int .i64 1), .lit (.int .i64 3), .lit (.bool false), .lit (.bool false), .lit (.bool false)], .agg [.lit (.int .i64 2), .lit (.int .i64 2), .lit (.int .i64 510), .lit (.int .i64 0), .lit (.int .i64 0), .lit (.bool true), .lit (.bool false), .lit (.bool true)]]

/-- 'nameplanlaw18.LameMatchesReference': WHATEVER THE INPUT: true; the input reads as it did. -/
def lameMatchesReferenceSpec : ChangeSpec := { name := "lameMatchesReference", fn := fun _ => fun
  | [d1, d2] => { results := [.lit (.bool true)], args := [d1, d2] }
  | _ => none }
def lameMatchesReferenceRow : OpenClaim := { program := "ytjapjahfllomkaagreatdoor", sum := "b4b749142ed42a6cd93305d50849f1b8218678115cc8953b67b68555cbafaae1", func := "nameplan/nameplanlaw18.LameMatchesReference", spec := "lameMatchesReference", inPlace := ["internal/bytealg.abigen_runtime_cmpstring", "internal/bytealg.IndexByteString", "internal/abi.NoEscape", "internal/bytealg.MakeNoZero"], unfollowed := true, recurses := true, named := ["nameplan/record.rules"], plainKeys := false, apart := false, laid := [("nameplan/record.rules", laid_nameplan_record_rules)] }
def LameMatchesReferenceSaid : Prop := lameMatchesReferenceRow.holds Tryz.pinned (OpenSpec.ofChange lameMatchesReferenceSpec)

/-- ITS FALSE NEIGHBOUR: 'it returns false'. Refute it at one input. -/
def lameMatchesReferenceWrong : ChangeSpec := { name := "lameMatchesReference", fn := fun _ => fun
  | [d1, d2] => { results := [.lit (.bool false)], args := [d1, d2] }
  | _ => none }
def LameMatchesReferenceWrongFalsely : Prop := lameMatchesReferenceRow.holds Tryz.pinned (OpenSpec.ofChange lameMatchesReferenceWrong)

/-- 'nameplanlaw18.LameOrder': WHATEVER THE INPUT: true; the input reads as it did. -/
def lameOrderSpec : ChangeSpec := { name := "lameOrder", fn := fun _ => fun
  | [d] => { results := [.lit (.bool true)], args := [d] }
  | _ => none }
def lameOrderRow : OpenClaim := { program := "ytjapjahfllomkaagreatdoor", sum := "b4b749142ed42a6cd93305d50849f1b8218678115cc8953b67b68555cbafaae1", func := "nameplan/nameplanlaw18.LameOrder", spec := "lameOrder", inPlace := ["internal/bytealg.abigen_runtime_cmpstring", "internal/bytealg.IndexByteString", "internal/abi.NoEscape", "internal/bytealg.MakeNoZero"], unfollowed := true, recurses := true, named := ["nameplan/record.rules"], plainKeys := false, apart := false, laid := [("nameplan/record.rules", laid_nameplan_record_rules)] }
def LameOrderSaid : Prop := lameOrderRow.holds Tryz.pinned (OpenSpec.ofChange lameOrderSpec)

/-- ITS FALSE NEIGHBOUR: 'it returns false'. Refute it at one input. -/
def lameOrderWrong : ChangeSpec := { name := "lameOrder", fn := fun _ => fun
  | [d] => { results := [.lit (.bool false)], args := [d] }
  | _ => none }
def LameOrderWrongFalsely : Prop := lameOrderRow.holds Tryz.pinned (OpenSpec.ofChange lameOrderWrong)

/-- 'nameplanlaw18.LameMended': WHATEVER THE INPUT: true; the input reads as it did. -/
def lameMendedSpec : ChangeSpec := { name := "lameMended", fn := fun _ => fun
  | [d1, d2] => { results := [.lit (.bool true)], args := [d1, d2] }
  | _ => none }
def lameMendedRow : OpenClaim := { program := "ytjapjahfllomkaagreatdoor", sum := "b4b749142ed42a6cd93305d50849f1b8218678115cc8953b67b68555cbafaae1", func := "nameplan/nameplanlaw18.LameMended", spec := "lameMended", inPlace := ["internal/bytealg.abigen_runtime_cmpstring", "internal/bytealg.IndexByteString", "internal/abi.NoEscape", "internal/bytealg.MakeNoZero"], unfollowed := true, recurses := true, named := ["nameplan/record.rules"], plainKeys := false, apart := false, laid := [("nameplan/record.rules", laid_nameplan_record_rules)] }
def LameMendedSaid : Prop := lameMendedRow.holds Tryz.pinned (OpenSpec.ofChange lameMendedSpec)

/-- ITS FALSE NEIGHBOUR: 'it returns false'. Refute it at one input. -/
def lameMendedWrong : ChangeSpec := { name := "lameMended", fn := fun _ => fun
  | [d1, d2] => { results := [.lit (.bool false)], args := [d1, d2] }
  | _ => none }
def LameMendedWrongFalsely : Prop := lameMendedRow.holds Tryz.pinned (OpenSpec.ofChange lameMendedWrong)

/-- 'nameplanlaw17.LoopsReaching': WHATEVER THE INPUT: true; the input reads as it did. -/
def loopsReachingSpec : ChangeSpec := { name := "loopsReaching", fn := fun _ => fun
  | [d] => { results := [.lit (.bool true)], args := [d] }
  | _ => none }
def loopsReachingRow : OpenClaim := { program := "ytjapjahfllomkaagreatdoor", sum := "b4b749142ed42a6cd93305d50849f1b8218678115cc8953b67b68555cbafaae1", func := "nameplan/nameplanlaw17.LoopsReaching", spec := "loopsReaching", inPlace := ["internal/bytealg.abigen_runtime_cmpstring", "internal/bytealg.IndexByteString", "internal/abi.NoEscape", "internal/bytealg.MakeNoZero"], unfollowed := true, recurses := true, named := ["nameplan/record.rules"], plainKeys := false, apart := false, laid := [("nameplan/record.rules", laid_nameplan_record_rules)] }
def LoopsReachingSaid : Prop := loopsReachingRow.holds Tryz.pinned (OpenSpec.ofChange loopsReachingSpec)

/-- ITS FALSE NEIGHBOUR: 'it returns false'. Refute it at one input. -/
def loopsReachingWrong : ChangeSpec := { name := "loopsReaching", fn := fun _ => fun
  | [d] => { results := [.lit (.bool false)], args := [d] }
  | _ => none }
def LoopsReachingWrongFalsely : Prop := loopsReachingRow.holds Tryz.pinned (OpenSpec.ofChange loopsReachingWrong)

/-- 'nameplanlaw18.LameServers': WHATEVER THE INPUT: true; the input reads as it did. -/
def lameServersSpec : ChangeSpec := { name := "lameServers", fn := fun _ => fun
  | [d1, d2] => { results := [.lit (.bool true)], args := [d1, d2] }
  | _ => none }
def lameServersRow : OpenClaim := { program := "ytjapjahfllomkaagreatdoor", sum := "b4b749142ed42a6cd93305d50849f1b8218678115cc8953b67b68555cbafaae1", func := "nameplan/nameplanlaw18.LameServers", spec := "lameServers", inPlace := ["internal/bytealg.abigen_runtime_cmpstring", "internal/bytealg.IndexByteString", "internal/abi.NoEscape", "internal/bytealg.MakeNoZero"], unfollowed := true, recurses := true, named := ["nameplan/record.rules"], plainKeys := false, apart := false, laid := [("nameplan/record.rules", laid_nameplan_record_rules)] }
def LameServersSaid : Prop := lameServersRow.holds Tryz.pinned (OpenSpec.ofChange lameServersSpec)

/-- ITS FALSE NEIGHBOUR: 'it returns false'. Refute it at one input. -/
def lameServersWrong : ChangeSpec := { name := "lameServers", fn := fun _ => fun
  | [d1, d2] => { results := [.lit (.bool false)], args := [d1, d2] }
  | _ => none }
def LameServersWrongFalsely : Prop := lameServersRow.holds Tryz.pinned (OpenSpec.ofChange lameServersWrong)

/-- 'nameplanlaw18.LameShown': WHATEVER THE INPUT: true; the input reads as it did. -/
def lameShownSpec : ChangeSpec := { name := "lameShown", fn := fun _ => fun
  | [d1, d2] => { results := [.lit (.bool true)], args := [d1, d2] }
  | _ => none }
def lameShownRow : OpenClaim := { program := "ytjapjahfllomkaagreatdoor", sum := "b4b749142ed42a6cd93305d50849f1b8218678115cc8953b67b68555cbafaae1", func := "nameplan/nameplanlaw18.LameShown", spec := "lameShown", inPlace := ["internal/bytealg.abigen_runtime_cmpstring", "internal/bytealg.IndexByteString", "internal/abi.NoEscape", "internal/bytealg.MakeNoZero"], unfollowed := true, recurses := true, named := ["nameplan/record.rules"], plainKeys := false, apart := false, laid := [("nameplan/record.rules", laid_nameplan_record_rules)] }
def LameShownSaid : Prop := lameShownRow.holds Tryz.pinned (OpenSpec.ofChange lameShownSpec)

/-- ITS FALSE NEIGHBOUR: 'it returns false'. Refute it at one input. -/
def lameShownWrong : ChangeSpec := { name := "lameShown", fn := fun _ => fun
  | [d1, d2] => { results := [.lit (.bool false)], args := [d1, d2] }
  | _ => none }
def LameShownWrongFalsely : Prop := lameShownRow.holds Tryz.pinned (OpenSpec.ofChange lameShownWrong)

/-- 'nameplanlaw18.LameNone': WHATEVER THE INPUT: true; the input reads as it did. -/
def lameNoneSpec : ChangeSpec := { name := "lameNone", fn := fun _ => fun
  | [d1, d2] => { results := [.lit (.bool true)], args := [d1, d2] }
  | _ => none }
def lameNoneRow : OpenClaim := { program := "ytjapjahfllomkaagreatdoor", sum := "b4b749142ed42a6cd93305d50849f1b8218678115cc8953b67b68555cbafaae1", func := "nameplan/nameplanlaw18.LameNone", spec := "lameNone", inPlace := ["internal/bytealg.abigen_runtime_cmpstring", "internal/bytealg.IndexByteString", "internal/abi.NoEscape", "internal/bytealg.MakeNoZero"], unfollowed := true, recurses := true, named := ["nameplan/record.rules"], plainKeys := false, apart := false, laid := [("nameplan/record.rules", laid_nameplan_record_rules)] }
def LameNoneSaid : Prop := lameNoneRow.holds Tryz.pinned (OpenSpec.ofChange lameNoneSpec)

/-- ITS FALSE NEIGHBOUR: 'it returns false'. Refute it at one input. -/
def lameNoneWrong : ChangeSpec := { name := "lameNone", fn := fun _ => fun
  | [d1, d2] => { results := [.lit (.bool false)], args := [d1, d2] }
  | _ => none }
def LameNoneWrongFalsely : Prop := lameNoneRow.holds Tryz.pinned (OpenSpec.ofChange lameNoneWrong)

/-- 'nameplanlaw17.LoopsNeeds': WHATEVER THE INPUT: true; the input reads as it did. -/
def loopsNeedsSpec : ChangeSpec := { name := "loopsNeeds", fn := fun _ => fun
  | [d1, d2] => { results := [.lit (.bool true)], args := [d1, d2] }
  | _ => none }
def loopsNeedsRow : OpenClaim := { program := "ytjapjahfllomkaagreatdoor", sum := "b4b749142ed42a6cd93305d50849f1b8218678115cc8953b67b68555cbafaae1", func := "nameplan/nameplanlaw17.LoopsNeeds", spec := "loopsNeeds", inPlace := ["internal/bytealg.abigen_runtime_cmpstring", "internal/bytealg.IndexByteString", "internal/abi.NoEscape", "internal/bytealg.MakeNoZero"], unfollowed := true, recurses := true, named := ["nameplan/record.rules"], plainKeys := false, apart := false, laid := [("nameplan/record.rules", laid_nameplan_record_rules)] }
def LoopsNeedsSaid : Prop := loopsNeedsRow.holds Tryz.pinned (OpenSpec.ofChange loopsNeedsSpec)

/-- ITS FALSE NEIGHBOUR: 'it returns false'. Refute it at one input. -/
def loopsNeedsWrong : ChangeSpec := { name := "loopsNeeds", fn := fun _ => fun
  | [d1, d2] => { results := [.lit (.bool false)], args := [d1, d2] }
  | _ => none }
def LoopsNeedsWrongFalsely : Prop := loopsNeedsRow.holds Tryz.pinned (OpenSpec.ofChange loopsNeedsWrong)

/- THE SECOND FORM. 'bulk': how many values and letters a reading holds, each counted each time it is reached (what is shared counts as often as it is met; a slice's spare places count too). A statement '..UptoSaid' is the law's where the arguments, and the package variables that the reading takes, are together of bulk at most 1048576: NARROWER than '..Said'. Prove '..Said' where nothing that the law and all that it calls make is longer than what came in: it says more and counts as full. Else prove '..UptoSaid'. A law counts once. -/
mutual
def uptoBulk {H : Type} : DataW H → Nat
  | .lit (.string bytes) => bytes.length + 1
  | .lit _ => 1
  | .nil => 1
  | .ptr d => uptoBulk d + 1
  | .slice elems spare => uptoBulkAll elems + uptoBulkAll spare + 1
  | .agg parts => uptoBulkAll parts + 1
  | .iface _ d => uptoBulk d + 1
  | .map entries => uptoBulkEntries entries + 1
  | .held _ => 1
def uptoBulkAll {H : Type} : List (DataW H) → Nat
  | [] => 0
  | d :: r => uptoBulk d + uptoBulkAll r
def uptoBulkEntries {H : Type} : List (Lit × DataW H) → Nat
  | [] => 0
  | x :: r => uptoBulkEntry x + uptoBulkEntries r
def uptoBulkEntry {H : Type} : Lit × DataW H → Nat
  | (.string bytes, d) => bytes.length + uptoBulk d + 1
  | (_, d) => uptoBulk d + 1
 end
def uptoSmall : (H : Type) → List (DataW H) → Bool := fun _ ds => decide (uptoBulkAll ds ≤ 1048576)
def OpenSpec.upto (s : _root_.Go.ChangeSpec) : _root_.Go.OpenSpec := { _root_.Go.OpenSpec.ofChange s with cond := some uptoSmall }

/-- 'nameplanlaw18.LameMatchesReference', WHERE WHAT IT READS IS OF BULK AT MOST 1048576: true; the input reads as it did. -/
def lameMatchesReferenceUptoRow : OpenClaim := { program := "ytjapjahfllomkaagreatdoor", sum := "b4b749142ed42a6cd93305d50849f1b8218678115cc8953b67b68555cbafaae1", func := "nameplan/nameplanlaw18.LameMatchesReference", spec := "lameMatchesReference", inPlace := ["internal/bytealg.abigen_runtime_cmpstring", "internal/bytealg.IndexByteString", "internal/abi.NoEscape", "internal/bytealg.MakeNoZero"], unfollowed := true, recurses := true, named := ["nameplan/record.rules"], plainKeys := false, apart := false, laid := [("nameplan/record.rules", laid_nameplan_record_rules)], narrowed := true }
def LameMatchesReferenceUptoSaid : Prop := lameMatchesReferenceUptoRow.holds Tryz.pinned (OpenSpec.upto lameMatchesReferenceSpec)

/-- 'nameplanlaw18.LameOrder', WHERE WHAT IT READS IS OF BULK AT MOST 1048576: true; the input reads as it did. -/
def lameOrderUptoRow : OpenClaim := { program := "ytjapjahfllomkaagreatdoor", sum := "b4b749142ed42a6cd93305d50849f1b8218678115cc8953b67b68555cbafaae1", func := "nameplan/nameplanlaw18.LameOrder", spec := "lameOrder", inPlace := ["internal/bytealg.abigen_runtime_cmpstring", "internal/bytealg.IndexByteString", "internal/abi.NoEscape", "internal/bytealg.MakeNoZero"], unfollowed := true, recurses := true, named := ["nameplan/record.rules"], plainKeys := false, apart := false, laid := [("nameplan/record.rules", laid_nameplan_record_rules)], narrowed := true }
def LameOrderUptoSaid : Prop := lameOrderUptoRow.holds Tryz.pinned (OpenSpec.upto lameOrderSpec)

/-- 'nameplanlaw18.LameMended', WHERE WHAT IT READS IS OF BULK AT MOST 1048576: true; the input reads as it did. -/
def lameMendedUptoRow : OpenClaim := { program := "ytjapjahfllomkaagreatdoor", sum := "b4b749142ed42a6cd93305d50849f1b8218678115cc8953b67b68555cbafaae1", func := "nameplan/nameplanlaw18.LameMended", spec := "lameMended", inPlace := ["internal/bytealg.abigen_runtime_cmpstring", "internal/bytealg.IndexByteString", "internal/abi.NoEscape", "internal/bytealg.MakeNoZero"], unfollowed := true, recurses := true, named := ["nameplan/record.rules"], plainKeys := false, apart := false, laid := [("nameplan/record.rules", laid_nameplan_record_rules)], narrowed := true }
def LameMendedUptoSaid : Prop := lameMendedUptoRow.holds Tryz.pinned (OpenSpec.upto lameMendedSpec)

/-- 'nameplanlaw17.LoopsReaching', WHERE WHAT IT READS IS OF BULK AT MOST 1048576: true; the input reads as it did. -/
def loopsReachingUptoRow : OpenClaim := { program := "ytjapjahfllomkaagreatdoor", sum := "b4b749142ed42a6cd93305d50849f1b8218678115cc8953b67b68555cbafaae1", func := "nameplan/nameplanlaw17.LoopsReaching", spec := "loopsReaching", inPlace := ["internal/bytealg.abigen_runtime_cmpstring", "internal/bytealg.IndexByteString", "internal/abi.NoEscape", "internal/bytealg.MakeNoZero"], unfollowed := true, recurses := true, named := ["nameplan/record.rules"], plainKeys := false, apart := false, laid := [("nameplan/record.rules", laid_nameplan_record_rules)], narrowed := true }
def LoopsReachingUptoSaid : Prop := loopsReachingUptoRow.holds Tryz.pinned (OpenSpec.upto loopsReachingSpec)

/-- 'nameplanlaw18.LameServers', WHERE WHAT IT READS IS OF BULK AT MOST 1048576: true; the input reads as it did. -/
def lameServersUptoRow : OpenClaim := { program := "ytjapjahfllomkaagreatdoor", sum := "b4b749142ed42a6cd93305d50849f1b8218678115cc8953b67b68555cbafaae1", func := "nameplan/nameplanlaw18.LameServers", spec := "lameServers", inPlace := ["internal/bytealg.abigen_runtime_cmpstring", "internal/bytealg.IndexByteString", "internal/abi.NoEscape", "internal/bytealg.MakeNoZero"], unfollowed := true, recurses := true, named := ["nameplan/record.rules"], plainKeys := false, apart := false, laid := [("nameplan/record.rules", laid_nameplan_record_rules)], narrowed := true }
def LameServersUptoSaid : Prop := lameServersUptoRow.holds Tryz.pinned (OpenSpec.upto lameServersSpec)

/-- 'nameplanlaw18.LameShown', WHERE WHAT IT READS IS OF BULK AT MOST 1048576: true; the input reads as it did. -/
def lameShownUptoRow : OpenClaim := { program := "ytjapjahfllomkaagreatdoor", sum := "b4b749142ed42a6cd93305d50849f1b8218678115cc8953b67b68555cbafaae1", func := "nameplan/nameplanlaw18.LameShown", spec := "lameShown", inPlace := ["internal/bytealg.abigen_runtime_cmpstring", "internal/bytealg.IndexByteString", "internal/abi.NoEscape", "internal/bytealg.MakeNoZero"], unfollowed := true, recurses := true, named := ["nameplan/record.rules"], plainKeys := false, apart := false, laid := [("nameplan/record.rules", laid_nameplan_record_rules)], narrowed := true }
def LameShownUptoSaid : Prop := lameShownUptoRow.holds Tryz.pinned (OpenSpec.upto lameShownSpec)

/-- 'nameplanlaw18.LameNone', WHERE WHAT IT READS IS OF BULK AT MOST 1048576: true; the input reads as it did. -/
def lameNoneUptoRow : OpenClaim := { program := "ytjapjahfllomkaagreatdoor", sum := "b4b749142ed42a6cd93305d50849f1b8218678115cc8953b67b68555cbafaae1", func := "nameplan/nameplanlaw18.LameNone", spec := "lameNone", inPlace := ["internal/bytealg.abigen_runtime_cmpstring", "internal/bytealg.IndexByteString", "internal/abi.NoEscape", "internal/bytealg.MakeNoZero"], unfollowed := true, recurses := true, named := ["nameplan/record.rules"], plainKeys := false, apart := false, laid := [("nameplan/record.rules", laid_nameplan_record_rules)], narrowed := true }
def LameNoneUptoSaid : Prop := lameNoneUptoRow.holds Tryz.pinned (OpenSpec.upto lameNoneSpec)

/-- 'nameplanlaw17.LoopsNeeds', WHERE WHAT IT READS IS OF BULK AT MOST 1048576: true; the input reads as it did. -/
def loopsNeedsUptoRow : OpenClaim := { program := "ytjapjahfllomkaagreatdoor", sum := "b4b749142ed42a6cd93305d50849f1b8218678115cc8953b67b68555cbafaae1", func := "nameplan/nameplanlaw17.LoopsNeeds", spec := "loopsNeeds", inPlace := ["internal/bytealg.abigen_runtime_cmpstring", "internal/bytealg.IndexByteString", "internal/abi.NoEscape", "internal/bytealg.MakeNoZero"], unfollowed := true, recurses := true, named := ["nameplan/record.rules"], plainKeys := false, apart := false, laid := [("nameplan/record.rules", laid_nameplan_record_rules)], narrowed := true }
def LoopsNeedsUptoSaid : Prop := loopsNeedsUptoRow.holds Tryz.pinned (OpenSpec.upto loopsNeedsSpec)

end Rows
end Go.Proofs.YtjapjahfllomkaaGreatDoor
