/-
  NARROWER THAN 'FOR EVERY INPUT', by the rows' own cells (each row's printed sentence says how): WorldMatchesReference: laid · WorldAsks: laid · WorldHomes: laid · WorldAliases: laid · WorldReferrals: laid · WorldDamage: laid · WorldOlder: laid.
  DERIVED. THE GIVEN ROWS OF THIS SEAT. 7 by the template 'for every input the law returns true; each argument reads behind the call as it read before'; 0 by the template 'total and deterministic' (their statements: YtnbnldnfkikakaaGreatDoorTotals.lean).
  GIVEN WITH THE SEED: the statements are not yours to turn. If you find one false, say at which input.
  Laid BY PROGRAM, IN A SANDBOX (cutbox-rows.mjs): the forced cells as the released guide's own fill.sh prints them over the translation 4b02ba61a1a98431… (all of the seat's roots in one cut). By AI agents, Wed Nov 11 2026. No macro, syntax, notation, axiom, sorry.
-/
import Derived.Test.YtnbnldnfkikakaaGreatDoorChecked
import GoSem.Claim
import GoSem.ClaimJoined
import GoSem.ClaimMapViews
import Derived.JoinedTies
import Derived.KernelRfl
namespace Go.Proofs.YtnbnldnfkikakaaGreatDoor
/- THE CELL 'sum', in the pinned program and in every row, IS THE sha256 OF THE DUMP (.gsa) THAT YtnbnldnfkikakaaGreatDoorProg.lean LOADS. Nothing in Lean hashes anything: it is a label: what it is worth is what the hold of that sum in a sandbox is worth. -/
noncomputable def Tryz.pinned : Pinned := { name := "ytnbnldnfkikakaagreatdoor", sum := "4b02ba61a1a98431c777b682198c89c3123c6ce60b30df0dfcae0647649e58e3", checked := Tryz.checked }
namespace Rows
def none {H : Type} : Left H := { results := [], args := [] }

/- WHAT THE LISTED PACKAGE-LEVEL VARIABLES READ AS WHEN THE CALL BEGINS. Each datum BY PROGRAM (the guide's laid-datum.mjs) off the statement by which the dump's own 'gosem.cut.vars' lays the variable. In a bare row this is a premise. The card (YtnbnldnfkikakaaGreatDoorCards.lean) ties it to the program's text. -/
def laid_nameplan_record_rules {H : Type} : DataW H := .agg [.agg [.lit (.int .i64 0), .lit (.int .i64 0), .lit (.int .i64 0), .lit (.int .i64 0), .lit (.int .i64 0), .lit (.bool false), .lit (.bool false), .lit (.bool false)], .agg [.lit (.int .i64 0), .lit (.int .i64 1), .lit (.int .i64 1000000), .lit (.int .i64 0), .lit (.int .i64 0), .lit (.bool false), .lit (.bool false), .lit (.bool true)], .agg [.lit (.int .i64 1), .lit (.int .i64 0), .lit (.int .i64 0), .lit (.int .i64 0), .lit (.int .i64 0), .lit (.bool false), .lit (.bool false), .lit (.bool false)], .agg [.lit (.int .i64 1), .lit (.int .i64 0), .lit (.int .i64 0), .lit (.int .i64 0), .lit (.int .i64 0), .lit (.bool false), .lit (.bool true), .lit (.bool false)], .agg [.lit (.int .i64 0), .lit (.int .i64 0), .lit (.int .i64 65535), .lit (.int .i64 0), .lit (.int .i64 100000), .lit (.bool false), .lit (.bool true), .lit (.bool false)], .agg [.lit (.int .i64 3), .lit (.int .i64 0), .lit (.int .i64 0), .lit (.int .i64 0), .lit (.int .i64 0), .lit (.bool false), .lit (.bool false), .lit (.bool true)], .agg [.lit (.int .i64 0), .lit (.int .i64 1), .lit (.int .i64 1000000), .lit (.int .i64 1), .lit (.int .i64 3), .lit (.bool false), .lit (.bool false), .lit (.bool false)], .agg [.lit (.int .i64 0), .lit (.int .i64 1), .lit (.int .i64 1000000), .lit (.int .i64 1), .lit (.int .i64 3), .lit (.bool false), .lit (.bool false), .lit (.bool false)], .agg [.lit (.int .i64 2), .lit (.int .i64 2), .lit (.int .i64 510), .lit (.int .i64 0), .lit (.int .i64 0), .lit (.bool true), .lit (.bool false), .lit (.bool true)]]

/-- 'nameplanlaw16.WorldMatchesReference': WHATEVER THE INPUT: true; the input reads as it did. -/
def worldMatchesReferenceSpec : ChangeSpec := { name := "worldMatchesReference", fn := fun _ => fun
  | [d1, d2, d3, d4] => { results := [.lit (.bool true)], args := [d1, d2, d3, d4] }
  | _ => none }
def worldMatchesReferenceRow : OpenClaim := { program := "ytnbnldnfkikakaagreatdoor", sum := "4b02ba61a1a98431c777b682198c89c3123c6ce60b30df0dfcae0647649e58e3", func := "nameplan/nameplanlaw16.WorldMatchesReference", spec := "worldMatchesReference", inPlace := ["internal/bytealg.abigen_runtime_cmpstring", "internal/bytealg.IndexByteString", "internal/abi.NoEscape", "internal/bytealg.MakeNoZero"], unfollowed := true, recurses := true, named := ["nameplan/record.rules"], plainKeys := false, apart := false, laid := [("nameplan/record.rules", laid_nameplan_record_rules)] }
def WorldMatchesReferenceSaid : Prop := worldMatchesReferenceRow.holds Tryz.pinned (OpenSpec.ofChange worldMatchesReferenceSpec)

/-- ITS FALSE NEIGHBOUR: 'it returns false'. Refute it at one input. -/
def worldMatchesReferenceWrong : ChangeSpec := { name := "worldMatchesReference", fn := fun _ => fun
  | [d1, d2, d3, d4] => { results := [.lit (.bool false)], args := [d1, d2, d3, d4] }
  | _ => none }
def WorldMatchesReferenceWrongFalsely : Prop := worldMatchesReferenceRow.holds Tryz.pinned (OpenSpec.ofChange worldMatchesReferenceWrong)

/-- 'nameplanlaw16.WorldAsks': WHATEVER THE INPUT: true; the input reads as it did. -/
def worldAsksSpec : ChangeSpec := { name := "worldAsks", fn := fun _ => fun
  | [d1, d2, d3] => { results := [.lit (.bool true)], args := [d1, d2, d3] }
  | _ => none }
def worldAsksRow : OpenClaim := { program := "ytnbnldnfkikakaagreatdoor", sum := "4b02ba61a1a98431c777b682198c89c3123c6ce60b30df0dfcae0647649e58e3", func := "nameplan/nameplanlaw16.WorldAsks", spec := "worldAsks", inPlace := ["internal/bytealg.abigen_runtime_cmpstring", "internal/bytealg.IndexByteString", "internal/abi.NoEscape", "internal/bytealg.MakeNoZero"], unfollowed := true, recurses := true, named := ["nameplan/record.rules"], plainKeys := false, apart := false, laid := [("nameplan/record.rules", laid_nameplan_record_rules)] }
def WorldAsksSaid : Prop := worldAsksRow.holds Tryz.pinned (OpenSpec.ofChange worldAsksSpec)

/-- ITS FALSE NEIGHBOUR: 'it returns false'. Refute it at one input. -/
def worldAsksWrong : ChangeSpec := { name := "worldAsks", fn := fun _ => fun
  | [d1, d2, d3] => { results := [.lit (.bool false)], args := [d1, d2, d3] }
  | _ => none }
def WorldAsksWrongFalsely : Prop := worldAsksRow.holds Tryz.pinned (OpenSpec.ofChange worldAsksWrong)

/-- 'nameplanlaw16.WorldHomes': WHATEVER THE INPUT: true; the input reads as it did. -/
def worldHomesSpec : ChangeSpec := { name := "worldHomes", fn := fun _ => fun
  | [d1, d2] => { results := [.lit (.bool true)], args := [d1, d2] }
  | _ => none }
def worldHomesRow : OpenClaim := { program := "ytnbnldnfkikakaagreatdoor", sum := "4b02ba61a1a98431c777b682198c89c3123c6ce60b30df0dfcae0647649e58e3", func := "nameplan/nameplanlaw16.WorldHomes", spec := "worldHomes", inPlace := ["internal/bytealg.abigen_runtime_cmpstring", "internal/bytealg.IndexByteString", "internal/abi.NoEscape", "internal/bytealg.MakeNoZero"], unfollowed := true, recurses := true, named := ["nameplan/record.rules"], plainKeys := false, apart := false, laid := [("nameplan/record.rules", laid_nameplan_record_rules)] }
def WorldHomesSaid : Prop := worldHomesRow.holds Tryz.pinned (OpenSpec.ofChange worldHomesSpec)

/-- ITS FALSE NEIGHBOUR: 'it returns false'. Refute it at one input. -/
def worldHomesWrong : ChangeSpec := { name := "worldHomes", fn := fun _ => fun
  | [d1, d2] => { results := [.lit (.bool false)], args := [d1, d2] }
  | _ => none }
def WorldHomesWrongFalsely : Prop := worldHomesRow.holds Tryz.pinned (OpenSpec.ofChange worldHomesWrong)

/-- 'nameplanlaw16.WorldAliases': WHATEVER THE INPUT: true; the input reads as it did. -/
def worldAliasesSpec : ChangeSpec := { name := "worldAliases", fn := fun _ => fun
  | [d1, d2] => { results := [.lit (.bool true)], args := [d1, d2] }
  | _ => none }
def worldAliasesRow : OpenClaim := { program := "ytnbnldnfkikakaagreatdoor", sum := "4b02ba61a1a98431c777b682198c89c3123c6ce60b30df0dfcae0647649e58e3", func := "nameplan/nameplanlaw16.WorldAliases", spec := "worldAliases", inPlace := ["internal/bytealg.abigen_runtime_cmpstring", "internal/bytealg.IndexByteString", "internal/abi.NoEscape", "internal/bytealg.MakeNoZero"], unfollowed := true, recurses := true, named := ["nameplan/record.rules"], plainKeys := false, apart := false, laid := [("nameplan/record.rules", laid_nameplan_record_rules)] }
def WorldAliasesSaid : Prop := worldAliasesRow.holds Tryz.pinned (OpenSpec.ofChange worldAliasesSpec)

/-- ITS FALSE NEIGHBOUR: 'it returns false'. Refute it at one input. -/
def worldAliasesWrong : ChangeSpec := { name := "worldAliases", fn := fun _ => fun
  | [d1, d2] => { results := [.lit (.bool false)], args := [d1, d2] }
  | _ => none }
def WorldAliasesWrongFalsely : Prop := worldAliasesRow.holds Tryz.pinned (OpenSpec.ofChange worldAliasesWrong)

/-- 'nameplanlaw16.WorldReferrals': WHATEVER THE INPUT: true; the input reads as it did. -/
def worldReferralsSpec : ChangeSpec := { name := "worldReferrals", fn := fun _ => fun
  | [d1, d2] => { results := [.lit (.bool true)], args := [d1, d2] }
  | _ => none }
def worldReferralsRow : OpenClaim := { program := "ytnbnldnfkikakaagreatdoor", sum := "4b02ba61a1a98431c777b682198c89c3123c6ce60b30df0dfcae0647649e58e3", func := "nameplan/nameplanlaw16.WorldReferrals", spec := "worldReferrals", inPlace := ["internal/bytealg.abigen_runtime_cmpstring", "internal/bytealg.IndexByteString", "internal/abi.NoEscape", "internal/bytealg.MakeNoZero"], unfollowed := true, recurses := true, named := ["nameplan/record.rules"], plainKeys := false, apart := false, laid := [("nameplan/record.rules", laid_nameplan_record_rules)] }
def WorldReferralsSaid : Prop := worldReferralsRow.holds Tryz.pinned (OpenSpec.ofChange worldReferralsSpec)

/-- ITS FALSE NEIGHBOUR: 'it returns false'. Refute it at one input. -/
def worldReferralsWrong : ChangeSpec := { name := "worldReferrals", fn := fun _ => fun
  | [d1, d2] => { results := [.lit (.bool false)], args := [d1, d2] }
  | _ => none }
def WorldReferralsWrongFalsely : Prop := worldReferralsRow.holds Tryz.pinned (OpenSpec.ofChange worldReferralsWrong)

/-- 'nameplanlaw16.WorldDamage': WHATEVER THE INPUT: true; the input reads as it did. -/
def worldDamageSpec : ChangeSpec := { name := "worldDamage", fn := fun _ => fun
  | [d1, d2, d3, d4] => { results := [.lit (.bool true)], args := [d1, d2, d3, d4] }
  | _ => none }
def worldDamageRow : OpenClaim := { program := "ytnbnldnfkikakaagreatdoor", sum := "4b02ba61a1a98431c777b682198c89c3123c6ce60b30df0dfcae0647649e58e3", func := "nameplan/nameplanlaw16.WorldDamage", spec := "worldDamage", inPlace := ["internal/bytealg.abigen_runtime_cmpstring", "internal/bytealg.IndexByteString", "internal/abi.NoEscape", "internal/bytealg.MakeNoZero"], unfollowed := true, recurses := true, named := ["nameplan/record.rules"], plainKeys := false, apart := false, laid := [("nameplan/record.rules", laid_nameplan_record_rules)] }
def WorldDamageSaid : Prop := worldDamageRow.holds Tryz.pinned (OpenSpec.ofChange worldDamageSpec)

/-- ITS FALSE NEIGHBOUR: 'it returns false'. Refute it at one input. -/
def worldDamageWrong : ChangeSpec := { name := "worldDamage", fn := fun _ => fun
  | [d1, d2, d3, d4] => { results := [.lit (.bool false)], args := [d1, d2, d3, d4] }
  | _ => none }
def WorldDamageWrongFalsely : Prop := worldDamageRow.holds Tryz.pinned (OpenSpec.ofChange worldDamageWrong)

/-- 'nameplanlaw16.WorldOlder': WHATEVER THE INPUT: true; the input reads as it did. -/
def worldOlderSpec : ChangeSpec := { name := "worldOlder", fn := fun _ => fun
  | [d1, d2, d3, d4, d5] => { results := [.lit (.bool true)], args := [d1, d2, d3, d4, d5] }
  | _ => none }
def worldOlderRow : OpenClaim := { program := "ytnbnldnfkikakaagreatdoor", sum := "4b02ba61a1a98431c777b682198c89c3123c6ce60b30df0dfcae0647649e58e3", func := "nameplan/nameplanlaw16.WorldOlder", spec := "worldOlder", inPlace := ["internal/bytealg.abigen_runtime_cmpstring", "internal/bytealg.IndexByteString", "internal/abi.NoEscape", "internal/bytealg.MakeNoZero", "slices.overlaps[nameplan/api.Signed]"], unfollowed := true, recurses := true, named := ["nameplan/record.rules"], plainKeys := false, apart := false, laid := [("nameplan/record.rules", laid_nameplan_record_rules)] }
def WorldOlderSaid : Prop := worldOlderRow.holds Tryz.pinned (OpenSpec.ofChange worldOlderSpec)

/-- ITS FALSE NEIGHBOUR: 'it returns false'. Refute it at one input. -/
def worldOlderWrong : ChangeSpec := { name := "worldOlder", fn := fun _ => fun
  | [d1, d2, d3, d4, d5] => { results := [.lit (.bool false)], args := [d1, d2, d3, d4, d5] }
  | _ => none }
def WorldOlderWrongFalsely : Prop := worldOlderRow.holds Tryz.pinned (OpenSpec.ofChange worldOlderWrong)

/- THE SECOND FORM. 'bulk': how many values and letters a reading holds, each counted each time it is reached (what is shared counts as often as it is met; a slice's spare places count too). A statement '..UptoSaid' is the law's where the arguments, and the package variables that the reading takes, are together of bulk at most 1048576: NARROWER than '..Said'. Prove '..Said' where nothing that the law and all that it calls make is longer than what came in: it says more and counts as full. Else prove '..UptoSaid'. A law counts once. -/
mutual
def uptoBulk {H : Type} : DataW H → Nat
  | .lit (.string bytes) => bytes.length + 1
  | .lit _ => 1
  | .nil => 1
  | .ptr d => uptoBulk d + 1
  | .slice elems spare => uptoBulkAll elems + uptoBulkAll spare + 1
  | .agg parts => uptoBulkAll parts + 1
  | .iface _ d => uptoBulk d + 1
  | .map entries => uptoBulkEntries entries + 1
  | .held _ => 1
def uptoBulkAll {H : Type} : List (DataW H) → Nat
  | [] => 0
  | d :: r => uptoBulk d + uptoBulkAll r
def uptoBulkEntries {H : Type} : List (Lit × DataW H) → Nat
  | [] => 0
  | x :: r => uptoBulkEntry x + uptoBulkEntries r
def uptoBulkEntry {H : Type} : Lit × DataW H → Nat
  | (.string bytes, d) => bytes.length + uptoBulk d + 1
  | (_, d) => uptoBulk d + 1
 end
def uptoSmall : (H : Type) → List (DataW H) → Bool := fun _ ds => decide (uptoBulkAll ds ≤ 1048576)
def OpenSpec.upto (s : _root_.Go.ChangeSpec) : _root_.Go.OpenSpec := { _root_.Go.OpenSpec.ofChange s with cond := some uptoSmall }

/-- 'nameplanlaw16.WorldMatchesReference', WHERE WHAT IT READS IS OF BULK AT MOST 1048576: true; the input reads as it did. -/
def worldMatchesReferenceUptoRow : OpenClaim := { program := "ytnbnldnfkikakaagreatdoor", sum := "4b02ba61a1a98431c777b682198c89c3123c6ce60b30df0dfcae0647649e58e3", func := "nameplan/nameplanlaw16.WorldMatchesReference", spec := "worldMatchesReference", inPlace := ["internal/bytealg.abigen_runtime_cmpstring", "internal/bytealg.IndexByteString", "internal/abi.NoEscape", "internal/bytealg.MakeNoZero"], unfollowed := true, recurses := true, named := ["nameplan/record.rules"], plainKeys := false, apart := false, laid := [("nameplan/record.rules", laid_nameplan_record_rules)], narrowed := true }
def WorldMatchesReferenceUptoSaid : Prop := worldMatchesReferenceUptoRow.holds Tryz.pinned (OpenSpec.upto worldMatchesReferenceSpec)

/-- 'nameplanlaw16.WorldAsks', WHERE WHAT IT READS IS OF BULK AT MOST 1048576: true; the input reads as it did. -/
def worldAsksUptoRow : OpenClaim := { program := "ytnbnldnfkikakaagreatdoor", sum := "4b02ba61a1a98431c777b682198c89c3123c6ce60b30df0dfcae0647649e58e3", func := "nameplan/nameplanlaw16.WorldAsks", spec := "worldAsks", inPlace := ["internal/bytealg.abigen_runtime_cmpstring", "internal/bytealg.IndexByteString", "internal/abi.NoEscape", "internal/bytealg.MakeNoZero"], unfollowed := true, recurses := true, named := ["nameplan/record.rules"], plainKeys := false, apart := false, laid := [("nameplan/record.rules", laid_nameplan_record_rules)], narrowed := true }
def WorldAsksUptoSaid : Prop := worldAsksUptoRow.holds Tryz.pinned (OpenSpec.upto worldAsksSpec)

/-- 'nameplanlaw16.WorldHomes', WHERE WHAT IT READS IS OF BULK AT MOST 1048576: true; the input reads as it did. -/
def worldHomesUptoRow : OpenClaim := { program := "ytnbnldnfkikakaagreatdoor", sum := "4b02ba61a1a98431c777b682198c89c3123c6ce60b30df0dfcae0647649e58e3", func := "nameplan/nameplanlaw16.WorldHomes", spec := "worldHomes", inPlace := ["internal/bytealg.abigen_runtime_cmpstring", "internal/bytealg.IndexByteString", "internal/abi.NoEscape", "internal/bytealg.MakeNoZero"], unfollowed := true, recurses := true, named := ["nameplan/record.rules"], plainKeys := false, apart := false, laid := [("nameplan/record.rules", laid_nameplan_record_rules)], narrowed := true }
def WorldHomesUptoSaid : Prop := worldHomesUptoRow.holds Tryz.pinned (OpenSpec.upto worldHomesSpec)

/-- 'nameplanlaw16.WorldAliases', WHERE WHAT IT READS IS OF BULK AT MOST 1048576: true; the input reads as it did. -/
def worldAliasesUptoRow : OpenClaim := { program := "ytnbnldnfkikakaagreatdoor", sum := "4b02ba61a1a98431c777b682198c89c3123c6ce60b30df0dfcae0647649e58e3", func := "nameplan/nameplanlaw16.WorldAliases", spec := "worldAliases", inPlace := ["internal/bytealg.abigen_runtime_cmpstring", "internal/bytealg.IndexByteString", "internal/abi.NoEscape", "internal/bytealg.MakeNoZero"], unfollowed := true, recurses := true, named := ["nameplan/record.rules"], plainKeys := false, apart := false, laid := [("nameplan/record.rules", laid_nameplan_record_rules)], narrowed := true }
def WorldAliasesUptoSaid : Prop := worldAliasesUptoRow.holds Tryz.pinned (OpenSpec.upto worldAliasesSpec)

/-- 'nameplanlaw16.WorldReferrals', WHERE WHAT IT READS IS OF BULK AT MOST 1048576: true; the input reads as it did. -/
def worldReferralsUptoRow : OpenClaim := { program := "ytnbnldnfkikakaagreatdoor", sum := "4b02ba61a1a98431c777b682198c89c3123c6ce60b30df0dfcae0647649e58e3", func := "nameplan/nameplanlaw16.WorldReferrals", spec := "worldReferrals", inPlace := ["internal/bytealg.abigen_runtime_cmpstring", "internal/bytealg.IndexByteString", "internal/abi.NoEscape", "internal/bytealg.MakeNoZero"], unfollowed := true, recurses := true, named := ["nameplan/record.rules"], plainKeys := false, apart := false, laid := [("nameplan/record.rules", laid_nameplan_record_rules)], narrowed := true }
def WorldReferralsUptoSaid : Prop := worldReferralsUptoRow.holds Tryz.pinned (OpenSpec.upto worldReferralsSpec)

/-- 'nameplanlaw16.WorldDamage', WHERE WHAT IT READS IS OF BULK AT MOST 1048576: true; the input reads as it did. -/
def worldDamageUptoRow : OpenClaim := { program := "ytnbnldnfkikakaagreatdoor", sum := "4b02ba61a1a98431c777b682198c89c3123c6ce60b30df0dfcae0647649e58e3", func := "nameplan/nameplanlaw16.WorldDamage", spec := "worldDamage", inPlace := ["internal/bytealg.abigen_runtime_cmpstring", "internal/bytealg.IndexByteString", "internal/abi.NoEscape", "internal/bytealg.MakeNoZero"], unfollowed := true, recurses := true, named := ["nameplan/record.rules"], plainKeys := false, apart := false, laid := [("nameplan/record.rules", laid_nameplan_record_rules)], narrowed := true }
def WorldDamageUptoSaid : Prop := worldDamageUptoRow.holds Tryz.pinned (OpenSpec.upto worldDamageSpec)

/-- 'nameplanlaw16.WorldOlder', WHERE WHAT IT READS IS OF BULK AT MOST 1048576: true; the input reads as it did. -/
def worldOlderUptoRow : OpenClaim := { program := "ytnbnldnfkikakaagreatdoor", sum := "4b02ba61a1a98431c777b682198c89c3123c6ce60b30df0dfcae0647649e58e3", func := "nameplan/nameplanlaw16.WorldOlder", spec := "worldOlder", inPlace := ["internal/bytealg.abigen_runtime_cmpstring", "internal/bytealg.IndexByteString", "internal/abi.NoEscape", "internal/bytealg.MakeNoZero", "slices.overlaps[nameplan/api.Signed]"], unfollowed := true, recurses := true, named := ["nameplan/record.rules"], plainKeys := false, apart := false, laid := [("nameplan/record.rules", laid_nameplan_record_rules)], narrowed := true }
def WorldOlderUptoSaid : Prop := worldOlderUptoRow.holds Tryz.pinned (OpenSpec.upto worldOlderSpec)

end Rows
end Go.Proofs.YtnbnldnfkikakaaGreatDoor
