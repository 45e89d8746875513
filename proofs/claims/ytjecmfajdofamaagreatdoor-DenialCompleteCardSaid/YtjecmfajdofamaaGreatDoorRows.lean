/-
  NARROWER THAN 'FOR EVERY INPUT', by the rows' own cells (each row's printed sentence says how): DenialChain: laid · DenialTwice: laid · DenialOne: laid · DenialSound: laid · DenialComplete: laid · WorldMatchesReference: laid · WorldAsks: laid · WorldHomes: laid · WorldAliases: laid · WorldReferrals: laid · WorldDamage: laid · WorldOlder: laid.
  DERIVED. THE GIVEN ROWS OF THIS SEAT. 12 by the template 'for every input the law returns true; each argument reads behind the call as it read before'; 0 by the template 'total and deterministic' (their statements: YtjecmfajdofamaaGreatDoorTotals.lean).
  GIVEN WITH THE SEED: the statements are not yours to turn. If you find one false, say at which input.
  Laid BY PROGRAM, IN A SANDBOX (cutbox-rows.mjs): the forced cells as the released guide's own fill.sh prints them over the translation 4fb72203600c9ae1… (all of the seat's roots in one cut). By AI agents, Wed Nov 11 2026. No macro, syntax, notation, axiom, sorry.
-/
import Derived.Test.YtjecmfajdofamaaGreatDoorChecked
import GoSem.Claim
import GoSem.ClaimJoined
import GoSem.ClaimMapViews
import Derived.JoinedTies
import Derived.KernelRfl
namespace Go.Proofs.YtjecmfajdofamaaGreatDoor
/- THE CELL 'sum', in the pinned program and in every row, IS THE sha256 OF THE DUMP (.gsa) THAT YtjecmfajdofamaaGreatDoorProg.lean LOADS. Nothing in Lean hashes anything: it is a label: what it is worth is what the hold of that sum in a sandbox is worth. -/
noncomputable def Tryz.pinned : Pinned := { name := "ytjecmfajdofamaagreatdoor", sum := "4fb72203600c9ae1adf430d5da1bded37f154950c48eb24fba4ad53b3f9b1eb6", checked := Tryz.checked }
namespace Rows
def none {H : Type} : Left H := { results := [], args := [] }

/- WHAT THE LISTED PACKAGE-LEVEL VARIABLES READ AS WHEN THE CALL BEGINS. Each datum BY PROGRAM (the guide's laid-datum.mjs) off the statement by which the dump's own 'gosem.cut.vars' lays the variable. In a bare row this is a premise. The card (YtjecmfajdofamaaGreatDoorCards.lean) ties it to the program's text. -/
def laid_nameplan_record_rules {H : Type} : DataW H := .agg [.agg [.lit (.int .i64 0), .lit (.int .i64 0), .lit (.int .i64 0), .lit (.int .i64 0), .lit (.int .i64 0), .lit (.bool false), .lit (.bool false), .lit (.bool false)], .agg [.lit (.int .i64 0), .lit (.int .i64 1), .lit (.int .i64 1000000), .lit (.int .i64 0), .lit (.int .i64 0), .lit (.bool false), .lit (.bool false), .lit (.bool true)], .agg [.lit (.int .i64 1), .lit (.int .i64 0), .lit (.int .i64 0), .lit (.int .i64 0), .lit (.int .i64 0), .lit (.bool false), .lit (.bool false), .lit (.bool false)], .agg [.lit (.int .i64 1), .lit (.int .i64 0), .lit (.int .i64 0), .lit (.int .i64 0), .lit (.int .i64 0), .lit (.bool false), .lit (.bool true), .lit (.bool false)], .agg [.lit (.int .i64 0), .lit (.int .i64 0), .lit (.int .i64 65535), .lit (.int .i64 0), .lit (.int .i64 100000), .lit (.bool false), .lit (.bool true), .lit (.bool false)], .agg [.lit (.int .i64 3), .lit (.int .i64 0), .lit (.int .i64 0), .lit (.int .i64 0), .lit (.int .i64 0), .lit (.bool false), .lit (.bool false), .lit (.bool true)], .agg [.lit (.int .i64 0), .lit (.int .i64 1), .lit (.int .i64 1000000), .lit (.int .i64 1), .lit (.int .i64 3), .lit (.bool false), .lit (.bool false), .lit (.bool false)], .agg [.lit (.int .i64 0), .lit (.int .i64 1), .lit (.int .i64 1000000), .lit (.int .i64 1), .lit (.int .i64 3), .lit (.bool false), .lit (.bool false), .lit (.bool false)], .agg [.lit (.int .i64 2), .lit (.int .i64 2), .lit (.int .i64 510), .lit (.int .i64 0), .lit (.int .i64 0), .lit (.bool true), .lit (.bool false), .lit (.bool true)]]

/-- 'nameplanlaw09.DenialChain': WHATEVER THE INPUT: true; the input reads as it did. -/
def denialChainSpec : ChangeSpec := { name := "denialChain", fn := fun _ => fun
  | [d] => { results := [.lit (.bool true)], args := [d] }
  | _ => none }
def denialChainRow : OpenClaim := { program := "ytjecmfajdofamaagreatdoor", sum := "4fb72203600c9ae1adf430d5da1bded37f154950c48eb24fba4ad53b3f9b1eb6", func := "nameplan/nameplanlaw09.DenialChain", spec := "denialChain", inPlace := ["internal/bytealg.abigen_runtime_cmpstring", "internal/abi.NoEscape", "internal/bytealg.MakeNoZero", "internal/bytealg.IndexByteString"], unfollowed := true, recurses := true, named := ["nameplan/record.rules"], plainKeys := false, apart := false, laid := [("nameplan/record.rules", laid_nameplan_record_rules)] }
def DenialChainSaid : Prop := denialChainRow.holds Tryz.pinned (OpenSpec.ofChange denialChainSpec)

/-- ITS FALSE NEIGHBOUR: 'it returns false'. Refute it at one input. -/
def denialChainWrong : ChangeSpec := { name := "denialChain", fn := fun _ => fun
  | [d] => { results := [.lit (.bool false)], args := [d] }
  | _ => none }
def DenialChainWrongFalsely : Prop := denialChainRow.holds Tryz.pinned (OpenSpec.ofChange denialChainWrong)

/-- 'nameplanlaw09.DenialTwice': WHATEVER THE INPUT: true; the input reads as it did. -/
def denialTwiceSpec : ChangeSpec := { name := "denialTwice", fn := fun _ => fun
  | [d1, d2] => { results := [.lit (.bool true)], args := [d1, d2] }
  | _ => none }
def denialTwiceRow : OpenClaim := { program := "ytjecmfajdofamaagreatdoor", sum := "4fb72203600c9ae1adf430d5da1bded37f154950c48eb24fba4ad53b3f9b1eb6", func := "nameplan/nameplanlaw09.DenialTwice", spec := "denialTwice", inPlace := ["internal/bytealg.abigen_runtime_cmpstring", "internal/abi.NoEscape", "internal/bytealg.MakeNoZero", "internal/bytealg.IndexByteString"], unfollowed := true, recurses := true, named := ["nameplan/record.rules"], plainKeys := false, apart := false, laid := [("nameplan/record.rules", laid_nameplan_record_rules)] }
def DenialTwiceSaid : Prop := denialTwiceRow.holds Tryz.pinned (OpenSpec.ofChange denialTwiceSpec)

/-- ITS FALSE NEIGHBOUR: 'it returns false'. Refute it at one input. -/
def denialTwiceWrong : ChangeSpec := { name := "denialTwice", fn := fun _ => fun
  | [d1, d2] => { results := [.lit (.bool false)], args := [d1, d2] }
  | _ => none }
def DenialTwiceWrongFalsely : Prop := denialTwiceRow.holds Tryz.pinned (OpenSpec.ofChange denialTwiceWrong)

/-- 'nameplanlaw09.DenialOne': WHATEVER THE INPUT: true; the input reads as it did. -/
def denialOneSpec : ChangeSpec := { name := "denialOne", fn := fun _ => fun
  | [d1, d2] => { results := [.lit (.bool true)], args := [d1, d2] }
  | _ => none }
def denialOneRow : OpenClaim := { program := "ytjecmfajdofamaagreatdoor", sum := "4fb72203600c9ae1adf430d5da1bded37f154950c48eb24fba4ad53b3f9b1eb6", func := "nameplan/nameplanlaw09.DenialOne", spec := "denialOne", inPlace := ["internal/bytealg.abigen_runtime_cmpstring", "internal/abi.NoEscape", "internal/bytealg.MakeNoZero", "internal/bytealg.IndexByteString"], unfollowed := true, recurses := true, named := ["nameplan/record.rules"], plainKeys := false, apart := false, laid := [("nameplan/record.rules", laid_nameplan_record_rules)] }
def DenialOneSaid : Prop := denialOneRow.holds Tryz.pinned (OpenSpec.ofChange denialOneSpec)

/-- ITS FALSE NEIGHBOUR: 'it returns false'. Refute it at one input. -/
def denialOneWrong : ChangeSpec := { name := "denialOne", fn := fun _ => fun
  | [d1, d2] => { results := [.lit (.bool false)], args := [d1, d2] }
  | _ => none }
def DenialOneWrongFalsely : Prop := denialOneRow.holds Tryz.pinned (OpenSpec.ofChange denialOneWrong)

/-- 'nameplanlaw09.DenialSound': WHATEVER THE INPUT: true; the input reads as it did. -/
def denialSoundSpec : ChangeSpec := { name := "denialSound", fn := fun _ => fun
  | [d1, d2, d3, d4] => { results := [.lit (.bool true)], args := [d1, d2, d3, d4] }
  | _ => none }
def denialSoundRow : OpenClaim := { program := "ytjecmfajdofamaagreatdoor", sum := "4fb72203600c9ae1adf430d5da1bded37f154950c48eb24fba4ad53b3f9b1eb6", func := "nameplan/nameplanlaw09.DenialSound", spec := "denialSound", inPlace := ["internal/bytealg.abigen_runtime_cmpstring", "internal/abi.NoEscape", "internal/bytealg.MakeNoZero", "internal/bytealg.IndexByteString"], unfollowed := true, recurses := true, named := ["nameplan/record.rules"], plainKeys := false, apart := false, laid := [("nameplan/record.rules", laid_nameplan_record_rules)] }
def DenialSoundSaid : Prop := denialSoundRow.holds Tryz.pinned (OpenSpec.ofChange denialSoundSpec)

/-- ITS FALSE NEIGHBOUR: 'it returns false'. Refute it at one input. -/
def denialSoundWrong : ChangeSpec := { name := "denialSound", fn := fun _ => fun
  | [d1, d2, d3, d4] => { results := [.lit (.bool false)], args := [d1, d2, d3, d4] }
  | _ => none }
def DenialSoundWrongFalsely : Prop := denialSoundRow.holds Tryz.pinned (OpenSpec.ofChange denialSoundWrong)

/-- 'nameplanlaw09.DenialComplete': WHATEVER THE INPUT: true; the input reads as it did. -/
def denialCompleteSpec : ChangeSpec := { name := "denialComplete", fn := fun _ => fun
  | [d1, d2] => { results := [.lit (.bool true)], args := [d1, d2] }
  | _ => none }
def denialCompleteRow : OpenClaim := { program := "ytjecmfajdofamaagreatdoor", sum := "4fb72203600c9ae1adf430d5da1bded37f154950c48eb24fba4ad53b3f9b1eb6", func := "nameplan/nameplanlaw09.DenialComplete", spec := "denialComplete", inPlace := ["internal/bytealg.abigen_runtime_cmpstring", "internal/abi.NoEscape", "internal/bytealg.MakeNoZero", "internal/bytealg.IndexByteString"], unfollowed := true, recurses := true, named := ["nameplan/record.rules"], plainKeys := false, apart := false, laid := [("nameplan/record.rules", laid_nameplan_record_rules)] }
def DenialCompleteSaid : Prop := denialCompleteRow.holds Tryz.pinned (OpenSpec.ofChange denialCompleteSpec)

/-- ITS FALSE NEIGHBOUR: 'it returns false'. Refute it at one input. -/
def denialCompleteWrong : ChangeSpec := { name := "denialComplete", fn := fun _ => fun
  | [d1, d2] => { results := [.lit (.bool false)], args := [d1, d2] }
  | _ => none }
def DenialCompleteWrongFalsely : Prop := denialCompleteRow.holds Tryz.pinned (OpenSpec.ofChange denialCompleteWrong)

/-- 'nameplanlaw16.WorldMatchesReference': WHATEVER THE INPUT: true; the input reads as it did. -/
def worldMatchesReferenceSpec : ChangeSpec := { name := "worldMatchesReference", fn := fun _ => fun
  | [d1, d2, d3, d4] => { results := [.lit (.bool true)], args := [d1, d2, d3, d4] }
  | _ => none }
def worldMatchesReferenceRow : OpenClaim := { program := "ytjecmfajdofamaagreatdoor", sum := "4fb72203600c9ae1adf430d5da1bded37f154950c48eb24fba4ad53b3f9b1eb6", func := "nameplan/nameplanlaw16.WorldMatchesReference", spec := "worldMatchesReference", inPlace := ["internal/bytealg.abigen_runtime_cmpstring", "internal/bytealg.IndexByteString", "internal/abi.NoEscape", "internal/bytealg.MakeNoZero"], unfollowed := true, recurses := true, named := ["nameplan/record.rules"], plainKeys := false, apart := false, laid := [("nameplan/record.rules", laid_nameplan_record_rules)] }
def WorldMatchesReferenceSaid : Prop := worldMatchesReferenceRow.holds Tryz.pinned (OpenSpec.ofChange worldMatchesReferenceSpec)

/-- ITS FALSE NEIGHBOUR: 'it returns false'. Refute it at one input. -/
def worldMatchesReferenceWrong : ChangeSpec := { name := "worldMatchesReference", fn := fun _ => fun
  | [d1, d2, d3, d4] => { results := [.lit (.bool false)], args := [d1, d2, d3, d4] }
  | _ => none }
def WorldMatchesReferenceWrongFalsely : Prop := worldMatchesReferenceRow.holds Tryz.pinned (OpenSpec.ofChange worldMatchesReferenceWrong)

/-- 'nameplanlaw16.WorldAsks': WHATEVER THE INPUT: true; the input reads as it did. -/
def worldAsksSpec : ChangeSpec := { name := "worldAsks", fn := fun _ => fun
  | [d1, d2, d3] => { results := [.lit (.bool true)], args := [d1, d2, d3] }
  | _ => none }
def worldAsksRow : OpenClaim := { program := "ytjecmfajdofamaagreatdoor", sum := "4fb72203600c9ae1adf430d5da1bded37f154950c48eb24fba4ad53b3f9b1eb6", func := "nameplan/nameplanlaw16.WorldAsks", spec := "worldAsks", inPlace := ["internal/bytealg.abigen_runtime_cmpstring", "internal/bytealg.IndexByteString", "internal/abi.NoEscape", "internal/bytealg.MakeNoZero"], unfollowed := true, recurses := true, named := ["nameplan/record.rules"], plainKeys := false, apart := false, laid := [("nameplan/record.rules", laid_nameplan_record_rules)] }
def WorldAsksSaid : Prop := worldAsksRow.holds Tryz.pinned (OpenSpec.ofChange worldAsksSpec)

/-- ITS FALSE NEIGHBOUR: 'it returns false'. Refute it at one input. -/
def worldAsksWrong : ChangeSpec := { name := "worldAsks", fn := fun _ => fun
  | [d1, d2, d3] => { results := [.lit (.bool false)], args := [d1, d2, d3] }
  | _ => none }
def WorldAsksWrongFalsely : Prop := worldAsksRow.holds Tryz.pinned (OpenSpec.ofChange worldAsksWrong)

/-- 'nameplanlaw16.WorldHomes': WHATEVER THE INPUT: true; the input reads as it did. -/
def worldHomesSpec : ChangeSpec := { name := "worldHomes", fn := fun _ => fun
  | [d1, d2] => { results := [.lit (.bool true)], args := [d1, d2] }
  | _ => none }
def worldHomesRow : OpenClaim := { program := "ytjecmfajdofamaagreatdoor", sum := "4fb72203600c9ae1adf430d5da1bded37f154950c48eb24fba4ad53b3f9b1eb6", func := "nameplan/nameplanlaw16.WorldHomes", spec := "worldHomes", inPlace := ["internal/bytealg.abigen_runtime_cmpstring", "internal/bytealg.IndexByteString", "internal/abi.NoEscape", "internal/bytealg.MakeNoZero"], unfollowed := true, recurses := true, named := ["nameplan/record.rules"], plainKeys := false, apart := false, laid := [("nameplan/record.rules", laid_nameplan_record_rules)] }
def WorldHomesSaid : Prop := worldHomesRow.holds Tryz.pinned (OpenSpec.ofChange worldHomesSpec)

/-- ITS FALSE NEIGHBOUR: 'it returns false'. Refute it at one input. -/
def worldHomesWrong : ChangeSpec := { name := "worldHomes", fn := fun _ => fun
  | [d1, d2] => { results := [.lit (.bool false)], args := [d1, d2] }
  | _ => none }
def WorldHomesWrongFalsely : Prop := worldHomesRow.holds Tryz.pinned (OpenSpec.ofChange worldHomesWrong)

/-- 'nameplanlaw16.WorldAliases': WHATEVER THE INPUT: true; the input reads as it did. -/
def worldAliasesSpec : ChangeSpec := { name := "worldAliases", fn := fun _ => fun
  | [d1, d2] => { results := [.lit (.bool true)], args := [d1, d2] }
  | _ => none }
def worldAliasesRow : OpenClaim := { program := "ytjecmfajdofamaagreatdoor", sum := "4fb72203600c9ae1adf430d5da1bded37f154950c48eb24fba4ad53b3f9b1eb6", func := "nameplan/nameplanlaw16.WorldAliases", spec := "worldAliases", inPlace := ["internal/bytealg.abigen_runtime_cmpstring", "internal/bytealg.IndexByteString", "internal/abi.NoEscape", "internal/bytealg.MakeNoZero"], unfollowed := true, recurses := true, named := ["nameplan/record.rules"], plainKeys := false, apart := false, laid := [("nameplan/record.rules", laid_nameplan_record_rules)] }
def WorldAliasesSaid : Prop := worldAliasesRow.holds Tryz.pinned (OpenSpec.ofChange worldAliasesSpec)

/-- ITS FALSE NEIGHBOUR: 'it returns false'. Refute it at one input. -/
def worldAliasesWrong : ChangeSpec := { name := "worldAliases", fn := fun _ => fun
  | [d1, d2] => { results := [.lit (.bool false)], args := [d1, d2] }
  | _ => none }
def WorldAliasesWrongFalsely : Prop := worldAliasesRow.holds Tryz.pinned (OpenSpec.ofChange worldAliasesWrong)

/-- 'nameplanlaw16.WorldReferrals': WHATEVER THE INPUT: true; the input reads as it did. -/
def worldReferralsSpec : ChangeSpec := { name := "worldReferrals", fn := fun _ => fun
  | [d1, d2] => { results := [.lit (.bool true)], args := [d1, d2] }
  | _ => none }
def worldReferralsRow : OpenClaim := { program := "ytjecmfajdofamaagreatdoor", sum := "4fb72203600c9ae1adf430d5da1bded37f154950c48eb24fba4ad53b3f9b1eb6", func := "nameplan/nameplanlaw16.WorldReferrals", spec := "worldReferrals", inPlace := ["internal/bytealg.abigen_runtime_cmpstring", "internal/bytealg.IndexByteString", "internal/abi.NoEscape", "internal/bytealg.MakeNoZero"], unfollowed := true, recurses := true, named := ["nameplan/record.rules"], plainKeys := false, apart := false, laid := [("nameplan/record.rules", laid_nameplan_record_rules)] }
def WorldReferralsSaid : Prop := worldReferralsRow.holds Tryz.pinned (OpenSpec.ofChange worldReferralsSpec)

/-- ITS FALSE NEIGHBOUR: 'it returns false'. Refute it at one input. -/
def worldReferralsWrong : ChangeSpec := { name := "worldReferrals", fn := fun _ => fun
  | [d1, d2] => { results := [.lit (.bool false)], args := [d1, d2] }
  | _ => none }
def WorldReferralsWrongFalsely : Prop := worldReferralsRow.holds Tryz.pinned (OpenSpec.ofChange worldReferralsWrong)

/-- 'nameplanlaw16.WorldDamage': WHATEVER THE INPUT: true; the input reads as it did. -/
def worldDamageSpec : ChangeSpec := { name := "worldDamage", fn := fun _ => fun
  | [d1, d2, d3, d4] => { results := [.lit (.bool true)], args := [d1, d2, d3, d4] }
  | _ => none }
def worldDamageRow : OpenClaim := { program := "ytjecmfajdofamaagreatdoor", sum := "4fb72203600c9ae1adf430d5da1bded37f154950c48eb24fba4ad53b3f9b1eb6", func := "nameplan/nameplanlaw16.WorldDamage", spec := "worldDamage", inPlace := ["internal/bytealg.abigen_runtime_cmpstring", "internal/bytealg.IndexByteString", "internal/abi.NoEscape", "internal/bytealg.MakeNoZero"], unfollowed := true, recurses := true, named := ["nameplan/record.rules"], plainKeys := false, apart := false, laid := [("nameplan/record.rules", laid_nameplan_record_rules)] }
def WorldDamageSaid : Prop := worldDamageRow.holds Tryz.pinned (OpenSpec.ofChange worldDamageSpec)

/-- ITS FALSE NEIGHBOUR: 'it returns false'. Refute it at one input. -/
def worldDamageWrong : ChangeSpec := { name := "worldDamage", fn := fun _ => fun
  | [d1, d2, d3, d4] => { results := [.lit (.bool false)], args := [d1, d2, d3, d4] }
  | _ => none }
def WorldDamageWrongFalsely : Prop := worldDamageRow.holds Tryz.pinned (OpenSpec.ofChange worldDamageWrong)

/-- 'nameplanlaw16.WorldOlder': WHATEVER THE INPUT: true; the input reads as it did. -/
def worldOlderSpec : ChangeSpec := { name := "worldOlder", fn := fun _ => fun
  | [d1, d2, d3, d4, d5] => { results := [.lit (.bool true)], args := [d1, d2, d3, d4, d5] }
  | _ => none }
def worldOlderRow : OpenClaim := { program := "ytjecmfajdofamaagreatdoor", sum := "4fb72203600c9ae1adf430d5da1bded37f154950c48eb24fba4ad53b3f9b1eb6", func := "nameplan/nameplanlaw16.WorldOlder", spec := "worldOlder", inPlace := ["internal/bytealg.abigen_runtime_cmpstring", "internal/bytealg.IndexByteString", "internal/abi.NoEscape", "internal/bytealg.MakeNoZero", "slices.overlaps[nameplan/api.Signed]"], unfollowed := true, recurses := true, named := ["nameplan/record.rules"], plainKeys := false, apart := false, laid := [("nameplan/record.rules", laid_nameplan_record_rules)] }
def WorldOlderSaid : Prop := worldOlderRow.holds Tryz.pinned (OpenSpec.ofChange worldOlderSpec)

/-- ITS FALSE NEIGHBOUR: 'it returns false'. Refute it at one input. -/
def worldOlderWrong : ChangeSpec := { name := "worldOlder", fn := fun _ => fun
  | [d1, d2, d3, d4, d5] => { results := [.lit (.bool false)], args := [d1, d2, d3, d4, d5] }
  | _ => none }
def WorldOlderWrongFalsely : Prop := worldOlderRow.holds Tryz.pinned (OpenSpec.ofChange worldOlderWrong)

/- THE SECOND FORM. 'bulk': how many values and letters a reading holds, each counted each time it is reached (what is shared counts as often as it is met; a slice's spare places count too). A statement '..UptoSaid' is the law's where the arguments, and the package variables that the reading takes, are together of bulk at most 1048576: NARROWER than '..Said'. Prove '..Said' where nothing that the law and all that it calls make is longer than what came in: it says more and counts as full. Else prove '..UptoSaid'. A law counts once. -/
mutual
def uptoBulk {H : Type} : DataW H → Nat
  | .lit (.string bytes) => bytes.length + 1
  | .lit _ => 1
  | .nil => 1
  | .ptr d => uptoBulk d + 1
  | .slice elems spare => uptoBulkAll elems + uptoBulkAll spare + 1
  | .agg parts => uptoBulkAll parts + 1
  | .iface _ d => uptoBulk d + 1
  | .map entries => uptoBulkEntries entries + 1
  | .held _ => 1
def uptoBulkAll {H : Type} : List (DataW H) → Nat
  | [] => 0
  | d :: r => uptoBulk d + uptoBulkAll r
def uptoBulkEntries {H : Type} : List (Lit × DataW H) → Nat
  | [] => 0
  | x :: r => uptoBulkEntry x + uptoBulkEntries r
def uptoBulkEntry {H : Type} : Lit × DataW H → Nat
  | (.string bytes, d) => bytes.length + uptoBulk d + 1
  | (_, d) => uptoBulk d + 1
 end
def uptoSmall : (H : Type) → List (DataW H) → Bool := fun _ ds => decide (uptoBulkAll ds ≤ 1048576)
def OpenSpec.upto (s : _root_.Go.ChangeSpec) : _root_.Go.OpenSpec := { _root_.Go.OpenSpec.ofChange s with cond := some uptoSmall }

/-- 'nameplanlaw09.DenialChain', WHERE WHAT IT READS IS OF BULK AT MOST 1048576: true; the input reads as it did. -/
def denialChainUptoRow : OpenClaim := { program := "ytjecmfajdofamaagreatdoor", sum := "4fb72203600c9ae1adf430d5da1bded37f154950c48eb24fba4ad53b3f9b1eb6", func := "nameplan/nameplanlaw09.DenialChain", spec := "denialChain", inPlace := ["internal/bytealg.abigen_runtime_cmpstring", "internal/abi.NoEscape", "internal/bytealg.MakeNoZero", "internal/bytealg.IndexByteString"], unfollowed := true, recurses := true, named := ["nameplan/record.rules"], plainKeys := false, apart := false, laid := [("nameplan/record.rules", laid_nameplan_record_rules)], narrowed := true }
def DenialChainUptoSaid : Prop := denialChainUptoRow.holds Tryz.pinned (OpenSpec.upto denialChainSpec)

/-- 'nameplanlaw09.DenialTwice', WHERE WHAT IT READS IS OF BULK AT MOST 1048576: true; the input reads as it did. -/
def denialTwiceUptoRow : OpenClaim := { program := "ytjecmfajdofamaagreatdoor", sum := "4fb72203600c9ae1adf430d5da1bded37f154950c48eb24fba4ad53b3f9b1eb6", func := "nameplan/nameplanlaw09.DenialTwice", spec := "denialTwice", inPlace := ["internal/bytealg.abigen_runtime_cmpstring", "internal/abi.NoEscape", "internal/bytealg.MakeNoZero", "internal/bytealg.IndexByteString"], unfollowed := true, recurses := true, named := ["nameplan/record.rules"], plainKeys := false, apart := false, laid := [("nameplan/record.rules", laid_nameplan_record_rules)], narrowed := true }
def DenialTwiceUptoSaid : Prop := denialTwiceUptoRow.holds Tryz.pinned (OpenSpec.upto denialTwiceSpec)

/-- 'nameplanlaw09.DenialOne', WHERE WHAT IT READS IS OF BULK AT MOST 1048576: true; the input reads as it did. -/
def denialOneUptoRow : OpenClaim := { program := "ytjecmfajdofamaagreatdoor", sum := "4fb72203600c9ae1adf430d5da1bded37f154950c48eb24fba4ad53b3f9b1eb6", func := "nameplan/nameplanlaw09.DenialOne", spec := "denialOne", inPlace := ["internal/bytealg.abigen_runtime_cmpstring", "internal/abi.NoEscape", "internal/bytealg.MakeNoZero", "internal/bytealg.IndexByteString"], unfollowed := true, recurses := true, named := ["nameplan/record.rules"], plainKeys := false, apart := false, laid := [("nameplan/record.rules", laid_nameplan_record_rules)], narrowed := true }
def DenialOneUptoSaid : Prop := denialOneUptoRow.holds Tryz.pinned (OpenSpec.upto denialOneSpec)

/-- 'nameplanlaw09.DenialSound', WHERE WHAT IT READS IS OF BULK AT MOST 1048576: true; the input reads as it did. -/
def denialSoundUptoRow : OpenClaim := { program := "ytjecmfajdofamaagreatdoor", sum := "4fb72203600c9ae1adf430d5da1bded37f154950c48eb24fba4ad53b3f9b1eb6", func := "nameplan/nameplanlaw09.DenialSound", spec := "denialSound", inPlace := ["internal/bytealg.abigen_runtime_cmpstring", "internal/abi.NoEscape", "internal/bytealg.MakeNoZero", "internal/bytealg.IndexByteString"], unfollowed := true, recurses := true, named := ["nameplan/record.rules"], plainKeys := false, apart := false, laid := [("nameplan/record.rules", laid_nameplan_record_rules)], narrowed := true }
def DenialSoundUptoSaid : Prop := denialSoundUptoRow.holds Tryz.pinned (OpenSpec.upto denialSoundSpec)

/-- 'nameplanlaw09.DenialComplete', WHERE WHAT IT READS IS OF BULK AT MOST 1048576: true; the input reads as it did. -/
def denialCompleteUptoRow : OpenClaim := { program := "ytjecmfajdofamaagreatdoor", sum := "4fb72203600c9ae1adf430d5da1bded37f154950c48eb24fba4ad53b3f9b1eb6", func := "nameplan/nameplanlaw09.DenialComplete", spec := "denialComplete", inPlace := ["internal/bytealg.abigen_runtime_cmpstring", "internal/abi.NoEscape", "internal/bytealg.MakeNoZero", "internal/bytealg.IndexByteString"], unfollowed := true, recurses := true, named := ["nameplan/record.rules"], plainKeys := false, apart := false, laid := [("nameplan/record.rules", laid_nameplan_record_rules)], narrowed := true }
def DenialCompleteUptoSaid : Prop := denialCompleteUptoRow.holds Tryz.pinned (OpenSpec.upto denialCompleteSpec)

/-- 'nameplanlaw16.WorldMatchesReference', WHERE WHAT IT READS IS OF BULK AT MOST 1048576: true; the input reads as it did. -/
def worldMatchesReferenceUptoRow : OpenClaim := { program := "ytjecmfajdofamaagreatdoor", sum := "4fb72203600c9ae1adf430d5da1bded37f154950c48eb24fba4ad53b3f9b1eb6", func := "nameplan/nameplanlaw16.WorldMatchesReference", spec := "worldMatchesReference", inPlace := ["internal/bytealg.abigen_runtime_cmpstring", "internal/bytealg.IndexByteString", "internal/abi.NoEscape", "internal/bytealg.MakeNoZero"], unfollowed := true, recurses := true, named := ["nameplan/record.rules"], plainKeys := false, apart := false, laid := [("nameplan/record.rules", laid_nameplan_record_rules)], narrowed := true }
def WorldMatchesReferenceUptoSaid : Prop := worldMatchesReferenceUptoRow.holds Tryz.pinned (OpenSpec.upto worldMatchesReferenceSpec)

/-- 'nameplanlaw16.WorldAsks', WHERE WHAT IT READS IS OF BULK AT MOST 1048576: true; the input reads as it did. -/
def worldAsksUptoRow : OpenClaim := { program := "ytjecmfajdofamaagreatdoor", sum := "4fb72203600c9ae1adf430d5da1bded37f154950c48eb24fba4ad53b3f9b1eb6", func := "nameplan/nameplanlaw16.WorldAsks", spec := "worldAsks", inPlace := ["internal/bytealg.abigen_runtime_cmpstring", "internal/bytealg.IndexByteString", "internal/abi.NoEscape", "internal/bytealg.MakeNoZero"], unfollowed := true, recurses := true, named := ["nameplan/record.rules"], plainKeys := false, apart := false, laid := [("nameplan/record.rules", laid_nameplan_record_rules)], narrowed := true }
def WorldAsksUptoSaid : Prop := worldAsksUptoRow.holds Tryz.pinned (OpenSpec.upto worldAsksSpec)

/-- 'nameplanlaw16.WorldHomes', WHERE WHAT IT READS IS OF BULK AT MOST 1048576: true; the input reads as it did. -/
def worldHomesUptoRow : OpenClaim := { program := "ytjecmfajdofamaagreatdoor", sum := "4fb72203600c9ae1adf430d5da1bded37f154950c48eb24fba4ad53b3f9b1eb6", func := "nameplan/nameplanlaw16.WorldHomes", spec := "worldHomes", inPlace := ["internal/bytealg.abigen_runtime_cmpstring", "internal/bytealg.IndexByteString", "internal/abi.NoEscape", "internal/bytealg.MakeNoZero"], unfollowed := true, recurses := true, named := ["nameplan/record.rules"], plainKeys := false, apart := false, laid := [("nameplan/record.rules", laid_nameplan_record_rules)], narrowed := true }
def WorldHomesUptoSaid : Prop := worldHomesUptoRow.holds Tryz.pinned (OpenSpec.upto worldHomesSpec)

/-- 'nameplanlaw16.WorldAliases', WHERE WHAT IT READS IS OF BULK AT MOST 1048576: true; the input reads as it did. -/
def worldAliasesUptoRow : OpenClaim := { program := "ytjecmfajdofamaagreatdoor", sum := "4fb72203600c9ae1adf430d5da1bded37f154950c48eb24fba4ad53b3f9b1eb6", func := "nameplan/nameplanlaw16.WorldAliases", spec := "worldAliases", inPlace := ["internal/bytealg.abigen_runtime_cmpstring", "internal/bytealg.IndexByteString", "internal/abi.NoEscape", "internal/bytealg.MakeNoZero"], unfollowed := true, recurses := true, named := ["nameplan/record.rules"], plainKeys := false, apart := false, laid := [("nameplan/record.rules", laid_nameplan_record_rules)], narrowed := true }
def WorldAliasesUptoSaid : Prop := worldAliasesUptoRow.holds Tryz.pinned (OpenSpec.upto worldAliasesSpec)

/-- 'nameplanlaw16.WorldReferrals', WHERE WHAT IT READS IS OF BULK AT MOST 1048576: true; the input reads as it did. -/
def worldReferralsUptoRow : OpenClaim := { program := "ytjecmfajdofamaagreatdoor", sum := "4fb72203600c9ae1adf430d5da1bded37f154950c48eb24fba4ad53b3f9b1eb6", func := "nameplan/nameplanlaw16.WorldReferrals", spec := "worldReferrals", inPlace := ["internal/bytealg.abigen_runtime_cmpstring", "internal/bytealg.IndexByteString", "internal/abi.NoEscape", "internal/bytealg.MakeNoZero"], unfollowed := true, recurses := true, named := ["nameplan/record.rules"], plainKeys := false, apart := false, laid := [("nameplan/record.rules", laid_nameplan_record_rules)], narrowed := true }
def WorldReferralsUptoSaid : Prop := worldReferralsUptoRow.holds Tryz.pinned (OpenSpec.upto worldReferralsSpec)

/-- 'nameplanlaw16.WorldDamage', WHERE WHAT IT READS IS OF BULK AT MOST 1048576: true; the input reads as it did. -/
def worldDamageUptoRow : OpenClaim := { program := "ytjecmfajdofamaagreatdoor", sum := "4fb72203600c9ae1adf430d5da1bded37f154950c48eb24fba4ad53b3f9b1eb6", func := "nameplan/nameplanlaw16.WorldDamage", spec := "worldDamage", inPlace := ["internal/bytealg.abigen_runtime_cmpstring", "internal/bytealg.IndexByteString", "internal/abi.NoEscape", "internal/bytealg.MakeNoZero"], unfollowed := true, recurses := true, named := ["nameplan/record.rules"], plainKeys := false, apart := false, laid := [("nameplan/record.rules", laid_nameplan_record_rules)], narrowed := true }
def WorldDamageUptoSaid : Prop := worldDamageUptoRow.holds Tryz.pinned (OpenSpec.upto worldDamageSpec)

/-- 'nameplanlaw16.WorldOlder', WHERE WHAT IT READS IS OF BULK AT MOST 1048576: true; the input reads as it did. -/
def worldOlderUptoRow : OpenClaim := { program := "ytjecmfajdofamaagreatdoor", sum := "4fb72203600c9ae1adf430d5da1bded37f154950c48eb24fba4ad53b3f9b1eb6", func := "nameplan/nameplanlaw16.WorldOlder", spec := "worldOlder", inPlace := ["internal/bytealg.abigen_runtime_cmpstring", "internal/bytealg.IndexByteString", "internal/abi.NoEscape", "internal/bytealg.MakeNoZero", "slices.overlaps[nameplan/api.Signed]"], unfollowed := true, recurses := true, named := ["nameplan/record.rules"], plainKeys := false, apart := false, laid := [("nameplan/record.rules", laid_nameplan_record_rules)], narrowed := true }
def WorldOlderUptoSaid : Prop := worldOlderUptoRow.holds Tryz.pinned (OpenSpec.upto worldOlderSpec)

end Rows
end Go.Proofs.YtjecmfajdofamaaGreatDoor
