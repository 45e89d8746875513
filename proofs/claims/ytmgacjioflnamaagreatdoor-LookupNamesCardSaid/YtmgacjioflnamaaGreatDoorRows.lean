/-
  NARROWER THAN 'FOR EVERY INPUT', by the rows' own cells (each row's printed sentence says how): LookupMatchesReference: laid · LookupData: laid · LookupReferrals: laid · LookupWildcards: laid · LookupNames: laid · DenialChain: laid · DenialTwice: laid · DenialOne: laid · LookupOthers: laid · DenialSound: laid · DenialComplete: laid.
  DERIVED. THE GIVEN ROWS OF THIS SEAT. 11 by the template 'for every input the law returns true; each argument reads behind the call as it read before'; 0 by the template 'total and deterministic' (their statements: YtmgacjioflnamaaGreatDoorTotals.lean).
  GIVEN WITH THE SEED: the statements are not yours to turn. If you find one false, say at which input.
  Laid BY PROGRAM, IN A SANDBOX (cutbox-rows.mjs): the forced cells as the released guide's own fill.sh prints them over the translation 85c085e4e6f56f2d… (all of the seat's roots in one cut). By AI agents, Wed Nov 11 2026. No macro, syntax, notation, axiom, sorry.
-/
import Derived.Test.YtmgacjioflnamaaGreatDoorChecked
import GoSem.Claim
import GoSem.ClaimJoined
import GoSem.ClaimMapViews
import Derived.JoinedTies
import Derived.KernelRfl
namespace Go.Proofs.YtmgacjioflnamaaGreatDoor
/- THE CELL 'sum', in the pinned program and in every row, IS THE sha256 OF THE DUMP (.gsa) THAT YtmgacjioflnamaaGreatDoorProg.lean LOADS. Nothing in Lean hashes anything: it is a label: what it is worth is what the hold of that sum in a sandbox is worth. -/
noncomputable def Tryz.pinned : Pinned := { name := "ytmgacjioflnamaagreatdoor", sum := "85c085e4e6f56f2db5d6d370200c1f258ea619e7d6a4cf473cb2733d048bc1b0", checked := Tryz.checked }
namespace Rows
def none {H : Type} : Left H := { results := [], args := [] }

/- WHAT THE LISTED PACKAGE-LEVEL VARIABLES READ AS WHEN THE CALL BEGINS. Each datum BY PROGRAM (the guide's laid-datum.mjs) off the statement by which the dump's own 'gosem.cut.vars' lays the variable. In a bare row this is a premise. The card (YtmgacjioflnamaaGreatDoorCards.lean) ties it to the program's text. -/
def laid_nameplan_record_rules {H : Type} : DataW H := .agg [.agg [.lit (.int .i64 0), .lit (.int .i64 0), .lit (.int .i64 0), .lit (.int .i64 0), .lit (.int .i64 0), .lit (.bool false), .lit (.bool false), .lit (.bool false)], .agg [.lit (.int .i64 0), .lit (.int .i64 1), .lit (.int .i64 1000000), .lit (.int .i64 0), .lit (.int .i64 0), .lit (.bool false), .lit (.bool false), .lit (.bool true)], .agg [.lit (.int .i64 1), .lit (.int .i64 0), .lit (.int .i64 0), .lit (.int .i64 0), .lit (.int .i64 0), .lit (.bool false), .lit (.bool false), .lit (.bool false)], .agg [.lit (.int .i64 1), .lit (.int .i64 0), .lit (.int .i64 0), .lit (.int .i64 0), .lit (.int .i64 0), .lit (.bool false), .lit (.bool true), .lit (.bool false)], .agg [.lit (.int .i64 0), .lit (.int .i64 0), .lit (.int .i64 65535), .lit (.int .i64 0), .lit (.int .i64 100000), .lit (.bool false), .lit (.bool true), .lit (.bool false)], .agg [.lit (.int .i64 3), .lit (.int .i64 0), .lit (.int .i64 0), .lit (.int .i64 0), .lit (.int .i64 0), .lit (.bool false), .lit (.bool false), .lit (.bool true)], .agg [.lit (.int .i64 0), .lit (.int .i64 1), .lit (.int .i64 1000000), .lit (.int .i64 1), .lit (.int .i64 3), .lit (.bool false), .lit (.bool false), .lit (.bool false)], .agg [.lit (.int .i64 0), .lit (.int .i64 1), .lit (.int .i64 1000000), .lit (.int .i64 1), .lit (.int .i64 3), .lit (.bool false), .lit (.bool false), .lit (.bool false)], .agg [.lit (.int .i64 2), .lit (.int .i64 2), .lit (.int .i64 510), .lit (.int .i64 0), .lit (.int .i64 0), .lit (.bool true), .lit (.bool false), .lit (.bool true)]]

/-- 'nameplanlaw07.LookupMatchesReference': WHATEVER THE INPUT: true; the input reads as it did. -/
def lookupMatchesReferenceSpec : ChangeSpec := { name := "lookupMatchesReference", fn := fun _ => fun
  | [d1, d2] => { results := [.lit (.bool true)], args := [d1, d2] }
  | _ => none }
def lookupMatchesReferenceRow : OpenClaim := { program := "ytmgacjioflnamaagreatdoor", sum := "85c085e4e6f56f2db5d6d370200c1f258ea619e7d6a4cf473cb2733d048bc1b0", func := "nameplan/nameplanlaw07.LookupMatchesReference", spec := "lookupMatchesReference", inPlace := ["internal/bytealg.abigen_runtime_cmpstring", "internal/bytealg.IndexByteString", "internal/abi.NoEscape", "internal/bytealg.MakeNoZero"], unfollowed := true, recurses := true, named := ["nameplan/record.rules"], plainKeys := false, apart := false, laid := [("nameplan/record.rules", laid_nameplan_record_rules)] }
def LookupMatchesReferenceSaid : Prop := lookupMatchesReferenceRow.holds Tryz.pinned (OpenSpec.ofChange lookupMatchesReferenceSpec)

/-- ITS FALSE NEIGHBOUR: 'it returns false'. Refute it at one input. -/
def lookupMatchesReferenceWrong : ChangeSpec := { name := "lookupMatchesReference", fn := fun _ => fun
  | [d1, d2] => { results := [.lit (.bool false)], args := [d1, d2] }
  | _ => none }
def LookupMatchesReferenceWrongFalsely : Prop := lookupMatchesReferenceRow.holds Tryz.pinned (OpenSpec.ofChange lookupMatchesReferenceWrong)

/-- 'nameplanlaw07.LookupData': WHATEVER THE INPUT: true; the input reads as it did. -/
def lookupDataSpec : ChangeSpec := { name := "lookupData", fn := fun _ => fun
  | [d1, d2] => { results := [.lit (.bool true)], args := [d1, d2] }
  | _ => none }
def lookupDataRow : OpenClaim := { program := "ytmgacjioflnamaagreatdoor", sum := "85c085e4e6f56f2db5d6d370200c1f258ea619e7d6a4cf473cb2733d048bc1b0", func := "nameplan/nameplanlaw07.LookupData", spec := "lookupData", inPlace := ["internal/bytealg.abigen_runtime_cmpstring", "internal/bytealg.IndexByteString", "internal/abi.NoEscape", "internal/bytealg.MakeNoZero"], unfollowed := true, recurses := true, named := ["nameplan/record.rules"], plainKeys := false, apart := false, laid := [("nameplan/record.rules", laid_nameplan_record_rules)] }
def LookupDataSaid : Prop := lookupDataRow.holds Tryz.pinned (OpenSpec.ofChange lookupDataSpec)

/-- ITS FALSE NEIGHBOUR: 'it returns false'. Refute it at one input. -/
def lookupDataWrong : ChangeSpec := { name := "lookupData", fn := fun _ => fun
  | [d1, d2] => { results := [.lit (.bool false)], args := [d1, d2] }
  | _ => none }
def LookupDataWrongFalsely : Prop := lookupDataRow.holds Tryz.pinned (OpenSpec.ofChange lookupDataWrong)

/-- 'nameplanlaw07.LookupReferrals': WHATEVER THE INPUT: true; the input reads as it did. -/
def lookupReferralsSpec : ChangeSpec := { name := "lookupReferrals", fn := fun _ => fun
  | [d1, d2] => { results := [.lit (.bool true)], args := [d1, d2] }
  | _ => none }
def lookupReferralsRow : OpenClaim := { program := "ytmgacjioflnamaagreatdoor", sum := "85c085e4e6f56f2db5d6d370200c1f258ea619e7d6a4cf473cb2733d048bc1b0", func := "nameplan/nameplanlaw07.LookupReferrals", spec := "lookupReferrals", inPlace := ["internal/bytealg.abigen_runtime_cmpstring", "internal/bytealg.IndexByteString", "internal/abi.NoEscape", "internal/bytealg.MakeNoZero"], unfollowed := true, recurses := true, named := ["nameplan/record.rules"], plainKeys := false, apart := false, laid := [("nameplan/record.rules", laid_nameplan_record_rules)] }
def LookupReferralsSaid : Prop := lookupReferralsRow.holds Tryz.pinned (OpenSpec.ofChange lookupReferralsSpec)

/-- ITS FALSE NEIGHBOUR: 'it returns false'. Refute it at one input. -/
def lookupReferralsWrong : ChangeSpec := { name := "lookupReferrals", fn := fun _ => fun
  | [d1, d2] => { results := [.lit (.bool false)], args := [d1, d2] }
  | _ => none }
def LookupReferralsWrongFalsely : Prop := lookupReferralsRow.holds Tryz.pinned (OpenSpec.ofChange lookupReferralsWrong)

/-- 'nameplanlaw07.LookupWildcards': WHATEVER THE INPUT: true; the input reads as it did. -/
def lookupWildcardsSpec : ChangeSpec := { name := "lookupWildcards", fn := fun _ => fun
  | [d1, d2] => { results := [.lit (.bool true)], args := [d1, d2] }
  | _ => none }
def lookupWildcardsRow : OpenClaim := { program := "ytmgacjioflnamaagreatdoor", sum := "85c085e4e6f56f2db5d6d370200c1f258ea619e7d6a4cf473cb2733d048bc1b0", func := "nameplan/nameplanlaw07.LookupWildcards", spec := "lookupWildcards", inPlace := ["internal/bytealg.abigen_runtime_cmpstring", "internal/bytealg.IndexByteString", "internal/abi.NoEscape", "internal/bytealg.MakeNoZero", "slices.overlaps[nameplan/api.Signed]"], unfollowed := true, recurses := true, named := ["nameplan/record.rules"], plainKeys := false, apart := false, laid := [("nameplan/record.rules", laid_nameplan_record_rules)] }
def LookupWildcardsSaid : Prop := lookupWildcardsRow.holds Tryz.pinned (OpenSpec.ofChange lookupWildcardsSpec)

/-- ITS FALSE NEIGHBOUR: 'it returns false'. Refute it at one input. -/
def lookupWildcardsWrong : ChangeSpec := { name := "lookupWildcards", fn := fun _ => fun
  | [d1, d2] => { results := [.lit (.bool false)], args := [d1, d2] }
  | _ => none }
def LookupWildcardsWrongFalsely : Prop := lookupWildcardsRow.holds Tryz.pinned (OpenSpec.ofChange lookupWildcardsWrong)

/-- 'nameplanlaw07.LookupNames': WHATEVER THE INPUT: true; the input reads as it did. -/
def lookupNamesSpec : ChangeSpec := { name := "lookupNames", fn := fun _ => fun
  | [d1, d2, d3, d4] => { results := [.lit (.bool true)], args := [d1, d2, d3, d4] }
  | _ => none }
def lookupNamesRow : OpenClaim := { program := "ytmgacjioflnamaagreatdoor", sum := "85c085e4e6f56f2db5d6d370200c1f258ea619e7d6a4cf473cb2733d048bc1b0", func := "nameplan/nameplanlaw07.LookupNames", spec := "lookupNames", inPlace := ["internal/bytealg.abigen_runtime_cmpstring", "internal/bytealg.IndexByteString", "internal/abi.NoEscape", "internal/bytealg.MakeNoZero", "slices.overlaps[nameplan/api.Signed]"], unfollowed := true, recurses := true, named := ["nameplan/record.rules"], plainKeys := false, apart := false, laid := [("nameplan/record.rules", laid_nameplan_record_rules)] }
def LookupNamesSaid : Prop := lookupNamesRow.holds Tryz.pinned (OpenSpec.ofChange lookupNamesSpec)

/-- ITS FALSE NEIGHBOUR: 'it returns false'. Refute it at one input. -/
def lookupNamesWrong : ChangeSpec := { name := "lookupNames", fn := fun _ => fun
  | [d1, d2, d3, d4] => { results := [.lit (.bool false)], args := [d1, d2, d3, d4] }
  | _ => none }
def LookupNamesWrongFalsely : Prop := lookupNamesRow.holds Tryz.pinned (OpenSpec.ofChange lookupNamesWrong)

/-- 'nameplanlaw09.DenialChain': WHATEVER THE INPUT: true; the input reads as it did. -/
def denialChainSpec : ChangeSpec := { name := "denialChain", fn := fun _ => fun
  | [d] => { results := [.lit (.bool true)], args := [d] }
  | _ => none }
def denialChainRow : OpenClaim := { program := "ytmgacjioflnamaagreatdoor", sum := "85c085e4e6f56f2db5d6d370200c1f258ea619e7d6a4cf473cb2733d048bc1b0", func := "nameplan/nameplanlaw09.DenialChain", spec := "denialChain", inPlace := ["internal/bytealg.abigen_runtime_cmpstring", "internal/abi.NoEscape", "internal/bytealg.MakeNoZero", "internal/bytealg.IndexByteString"], unfollowed := true, recurses := true, named := ["nameplan/record.rules"], plainKeys := false, apart := false, laid := [("nameplan/record.rules", laid_nameplan_record_rules)] }
def DenialChainSaid : Prop := denialChainRow.holds Tryz.pinned (OpenSpec.ofChange denialChainSpec)

/-- ITS FALSE NEIGHBOUR: 'it returns false'. Refute it at one input. -/
def denialChainWrong : ChangeSpec := { name := "denialChain", fn := fun _ => fun
  | [d] => { results := [.lit (.bool false)], args := [d] }
  | _ => none }
def DenialChainWrongFalsely : Prop := denialChainRow.holds Tryz.pinned (OpenSpec.ofChange denialChainWrong)

/-- 'nameplanlaw09.DenialTwice': WHATEVER THE INPUT: true; the input reads as it did. -/
def denialTwiceSpec : ChangeSpec := { name := "denialTwice", fn := fun _ => fun
  | [d1, d2] => { results := [.lit (.bool true)], args := [d1, d2] }
  | _ => none }
def denialTwiceRow : OpenClaim := { program := "ytmgacjioflnamaagreatdoor", sum := "85c085e4e6f56f2db5d6d370200c1f258ea619e7d6a4cf473cb2733d048bc1b0", func := "nameplan/nameplanlaw09.DenialTwice", spec := "denialTwice", inPlace := ["internal/bytealg.abigen_runtime_cmpstring", "internal/abi.NoEscape", "internal/bytealg.MakeNoZero", "internal/bytealg.IndexByteString"], unfollowed := true, recurses := true, named := ["nameplan/record.rules"], plainKeys := false, apart := false, laid := [("nameplan/record.rules", laid_nameplan_record_rules)] }
def DenialTwiceSaid : Prop := denialTwiceRow.holds Tryz.pinned (OpenSpec.ofChange denialTwiceSpec)

/-- ITS FALSE NEIGHBOUR: 'it returns false'. Refute it at one input. -/
def denialTwiceWrong : ChangeSpec := { name := "denialTwice", fn := fun _ => fun
  | [d1, d2] => { results := [.lit (.bool false)], args := [d1, d2] }
  | _ => none }
def DenialTwiceWrongFalsely : Prop := denialTwiceRow.holds Tryz.pinned (OpenSpec.ofChange denialTwiceWrong)

/-- 'nameplanlaw09.DenialOne': WHATEVER THE INPUT: true; the input reads as it did. -/
def denialOneSpec : ChangeSpec := { name := "denialOne", fn := fun _ => fun
  | [d1, d2] => { results := [.lit (.bool true)], args := [d1, d2] }
  | _ => none }
def denialOneRow : OpenClaim := { program := "ytmgacjioflnamaagreatdoor", sum := "85c085e4e6f56f2db5d6d370200c1f258ea619e7d6a4cf473cb2733d048bc1b0", func := "nameplan/nameplanlaw09.DenialOne", spec := "denialOne", inPlace := ["internal/bytealg.abigen_runtime_cmpstring", "internal/abi.NoEscape", "internal/bytealg.MakeNoZero", "internal/bytealg.IndexByteString"], unfollowed := true, recurses := true, named := ["nameplan/record.rules"], plainKeys := false, apart := false, laid := [("nameplan/record.rules", laid_nameplan_record_rules)] }
def DenialOneSaid : Prop := denialOneRow.holds Tryz.pinned (OpenSpec.ofChange denialOneSpec)

/-- ITS FALSE NEIGHBOUR: 'it returns false'. Refute it at one input. -/
def denialOneWrong : ChangeSpec := { name := "denialOne", fn := fun _ => fun
  | [d1, d2] => { results := [.lit (.bool false)], args := [d1, d2] }
  | _ => none }
def DenialOneWrongFalsely : Prop := denialOneRow.holds Tryz.pinned (OpenSpec.ofChange denialOneWrong)

/-- 'nameplanlaw07.LookupOthers': WHATEVER THE INPUT: true; the input reads as it did. -/
def lookupOthersSpec : ChangeSpec := { name := "lookupOthers", fn := fun _ => fun
  | [d1, d2, d3] => { results := [.lit (.bool true)], args := [d1, d2, d3] }
  | _ => none }
def lookupOthersRow : OpenClaim := { program := "ytmgacjioflnamaagreatdoor", sum := "85c085e4e6f56f2db5d6d370200c1f258ea619e7d6a4cf473cb2733d048bc1b0", func := "nameplan/nameplanlaw07.LookupOthers", spec := "lookupOthers", inPlace := ["internal/bytealg.abigen_runtime_cmpstring", "internal/bytealg.IndexByteString", "internal/abi.NoEscape", "internal/bytealg.MakeNoZero", "slices.overlaps[nameplan/api.Signed]"], unfollowed := true, recurses := true, named := ["nameplan/record.rules"], plainKeys := false, apart := false, laid := [("nameplan/record.rules", laid_nameplan_record_rules)] }
def LookupOthersSaid : Prop := lookupOthersRow.holds Tryz.pinned (OpenSpec.ofChange lookupOthersSpec)

/-- ITS FALSE NEIGHBOUR: 'it returns false'. Refute it at one input. -/
def lookupOthersWrong : ChangeSpec := { name := "lookupOthers", fn := fun _ => fun
  | [d1, d2, d3] => { results := [.lit (.bool false)], args := [d1, d2, d3] }
  | _ => none }
def LookupOthersWrongFalsely : Prop := lookupOthersRow.holds Tryz.pinned (OpenSpec.ofChange lookupOthersWrong)

/-- 'nameplanlaw09.DenialSound': WHATEVER THE INPUT: true; the input reads as it did. -/
def denialSoundSpec : ChangeSpec := { name := "denialSound", fn := fun _ => fun
  | [d1, d2, d3, d4] => { results := [.lit (.bool true)], args := [d1, d2, d3, d4] }
  | _ => none }
def denialSoundRow : OpenClaim := { program := "ytmgacjioflnamaagreatdoor", sum := "85c085e4e6f56f2db5d6d370200c1f258ea619e7d6a4cf473cb2733d048bc1b0", func := "nameplan/nameplanlaw09.DenialSound", spec := "denialSound", inPlace := ["internal/bytealg.abigen_runtime_cmpstring", "internal/abi.NoEscape", "internal/bytealg.MakeNoZero", "internal/bytealg.IndexByteString"], unfollowed := true, recurses := true, named := ["nameplan/record.rules"], plainKeys := false, apart := false, laid := [("nameplan/record.rules", laid_nameplan_record_rules)] }
def DenialSoundSaid : Prop := denialSoundRow.holds Tryz.pinned (OpenSpec.ofChange denialSoundSpec)

/-- ITS FALSE NEIGHBOUR: 'it returns false'. Refute it at one input. -/
def denialSoundWrong : ChangeSpec := { name := "denialSound", fn := fun _ => fun
  | [d1, d2, d3, d4] => { results := [.lit (.bool false)], args := [d1, d2, d3, d4] }
  | _ => none }
def DenialSoundWrongFalsely : Prop := denialSoundRow.holds Tryz.pinned (OpenSpec.ofChange denialSoundWrong)

/-- 'nameplanlaw09.DenialComplete': WHATEVER THE INPUT: true; the input reads as it did. -/
def denialCompleteSpec : ChangeSpec := { name := "denialComplete", fn := fun _ => fun
  | [d1, d2] => { results := [.lit (.bool true)], args := [d1, d2] }
  | _ => none }
def denialCompleteRow : OpenClaim := { program := "ytmgacjioflnamaagreatdoor", sum := "85c085e4e6f56f2db5d6d370200c1f258ea619e7d6a4cf473cb2733d048bc1b0", func := "nameplan/nameplanlaw09.DenialComplete", spec := "denialComplete", inPlace := ["internal/bytealg.abigen_runtime_cmpstring", "internal/abi.NoEscape", "internal/bytealg.MakeNoZero", "internal/bytealg.IndexByteString"], unfollowed := true, recurses := true, named := ["nameplan/record.rules"], plainKeys := false, apart := false, laid := [("nameplan/record.rules", laid_nameplan_record_rules)] }
def DenialCompleteSaid : Prop := denialCompleteRow.holds Tryz.pinned (OpenSpec.ofChange denialCompleteSpec)

/-- ITS FALSE NEIGHBOUR: 'it returns false'. Refute it at one input. -/
def denialCompleteWrong : ChangeSpec := { name := "denialComplete", fn := fun _ => fun
  | [d1, d2] => { results := [.lit (.bool false)], args := [d1, d2] }
  | _ => none }
def DenialCompleteWrongFalsely : Prop := denialCompleteRow.holds Tryz.pinned (OpenSpec.ofChange denialCompleteWrong)

/- THE SECOND FORM. 'bulk': how many values and letters a reading holds, each counted each time it is reached (what is shared counts as often as it is met; a slice's spare places count too). A statement '..UptoSaid' is the law's where the arguments, and the package variables that the reading takes, are together of bulk at most 1048576: NARROWER than '..Said'. Prove '..Said' where nothing that the law and all that it calls make is longer than what came in: it says more and counts as full. Else prove '..UptoSaid'. A law counts once. -/
mutual
def uptoBulk {H : Type} : DataW H → Nat
  | .lit (.string bytes) => bytes.length + 1
  | .lit _ => 1
  | .nil => 1
  | .ptr d => uptoBulk d + 1
  | .slice elems spare => uptoBulkAll elems + uptoBulkAll spare + 1
  | .agg parts => uptoBulkAll parts + 1
  | .iface _ d => uptoBulk d + 1
  | .map entries => uptoBulkEntries entries + 1
  | .held _ => 1
def uptoBulkAll {H : Type} : List (DataW H) → Nat
  | [] => 0
  | d :: r => uptoBulk d + uptoBulkAll r
def uptoBulkEntries {H : Type} : List (Lit × DataW H) → Nat
  | [] => 0
  | x :: r => uptoBulkEntry x + uptoBulkEntries r
def uptoBulkEntry {H : Type} : Lit × DataW H → Nat
  | (.string bytes, d) => bytes.length + uptoBulk d + 1
  | (_, d) => uptoBulk d + 1
 end
def uptoSmall : (H : Type) → List (DataW H) → Bool := fun _ ds => decide (uptoBulkAll ds ≤ 1048576)
def OpenSpec.upto (s : _root_.Go.ChangeSpec) : _root_.Go.OpenSpec := { _root_.Go.OpenSpec.ofChange s with cond := some uptoSmall }

/-- 'nameplanlaw07.LookupMatchesReference', WHERE WHAT IT READS IS OF BULK AT MOST 1048576: true; the input reads as it did. -/
def lookupMatchesReferenceUptoRow : OpenClaim := { program := "ytmgacjioflnamaagreatdoor", sum := "85c085e4e6f56f2db5d6d370200c1f258ea619e7d6a4cf473cb2733d048bc1b0", func := "nameplan/nameplanlaw07.LookupMatchesReference", spec := "lookupMatchesReference", inPlace := ["internal/bytealg.abigen_runtime_cmpstring", "internal/bytealg.IndexByteString", "internal/abi.NoEscape", "internal/bytealg.MakeNoZero"], unfollowed := true, recurses := true, named := ["nameplan/record.rules"], plainKeys := false, apart := false, laid := [("nameplan/record.rules", laid_nameplan_record_rules)], narrowed := true }
def LookupMatchesReferenceUptoSaid : Prop := lookupMatchesReferenceUptoRow.holds Tryz.pinned (OpenSpec.upto lookupMatchesReferenceSpec)

/-- 'nameplanlaw07.LookupData', WHERE WHAT IT READS IS OF BULK AT MOST 1048576: true; the input reads as it did. -/
def lookupDataUptoRow : OpenClaim := { program := "ytmgacjioflnamaagreatdoor", sum := "85c085e4e6f56f2db5d6d370200c1f258ea619e7d6a4cf473cb2733d048bc1b0", func := "nameplan/nameplanlaw07.LookupData", spec := "lookupData", inPlace := ["internal/bytealg.abigen_runtime_cmpstring", "internal/bytealg.IndexByteString", "internal/abi.NoEscape", "internal/bytealg.MakeNoZero"], unfollowed := true, recurses := true, named := ["nameplan/record.rules"], plainKeys := false, apart := false, laid := [("nameplan/record.rules", laid_nameplan_record_rules)], narrowed := true }
def LookupDataUptoSaid : Prop := lookupDataUptoRow.holds Tryz.pinned (OpenSpec.upto lookupDataSpec)

/-- 'nameplanlaw07.LookupReferrals', WHERE WHAT IT READS IS OF BULK AT MOST 1048576: true; the input reads as it did. -/
def lookupReferralsUptoRow : OpenClaim := { program := "ytmgacjioflnamaagreatdoor", sum := "85c085e4e6f56f2db5d6d370200c1f258ea619e7d6a4cf473cb2733d048bc1b0", func := "nameplan/nameplanlaw07.LookupReferrals", spec := "lookupReferrals", inPlace := ["internal/bytealg.abigen_runtime_cmpstring", "internal/bytealg.IndexByteString", "internal/abi.NoEscape", "internal/bytealg.MakeNoZero"], unfollowed := true, recurses := true, named := ["nameplan/record.rules"], plainKeys := false, apart := false, laid := [("nameplan/record.rules", laid_nameplan_record_rules)], narrowed := true }
def LookupReferralsUptoSaid : Prop := lookupReferralsUptoRow.holds Tryz.pinned (OpenSpec.upto lookupReferralsSpec)

/-- 'nameplanlaw07.LookupWildcards', WHERE WHAT IT READS IS OF BULK AT MOST 1048576: true; the input reads as it did. -/
def lookupWildcardsUptoRow : OpenClaim := { program := "ytmgacjioflnamaagreatdoor", sum := "85c085e4e6f56f2db5d6d370200c1f258ea619e7d6a4cf473cb2733d048bc1b0", func := "nameplan/nameplanlaw07.LookupWildcards", spec := "lookupWildcards", inPlace := ["internal/bytealg.abigen_runtime_cmpstring", "internal/bytealg.IndexByteString", "internal/abi.NoEscape", "internal/bytealg.MakeNoZero", "slices.overlaps[nameplan/api.Signed]"], unfollowed := true, recurses := true, named := ["nameplan/record.rules"], plainKeys := false, apart := false, laid := [("nameplan/record.rules", laid_nameplan_record_rules)], narrowed := true }
def LookupWildcardsUptoSaid : Prop := lookupWildcardsUptoRow.holds Tryz.pinned (OpenSpec.upto lookupWildcardsSpec)

/-- 'nameplanlaw07.LookupNames', WHERE WHAT IT READS IS OF BULK AT MOST 1048576: true; the input reads as it did. -/
def lookupNamesUptoRow : OpenClaim := { program := "ytmgacjioflnamaagreatdoor", sum := "85c085e4e6f56f2db5d6d370200c1f258ea619e7d6a4cf473cb2733d048bc1b0", func := "nameplan/nameplanlaw07.LookupNames", spec := "lookupNames", inPlace := ["internal/bytealg.abigen_runtime_cmpstring", "internal/bytealg.IndexByteString", "internal/abi.NoEscape", "internal/bytealg.MakeNoZero", "slices.overlaps[nameplan/api.Signed]"], unfollowed := true, recurses := true, named := ["nameplan/record.rules"], plainKeys := false, apart := false, laid := [("nameplan/record.rules", laid_nameplan_record_rules)], narrowed := true }
def LookupNamesUptoSaid : Prop := lookupNamesUptoRow.holds Tryz.pinned (OpenSpec.upto lookupNamesSpec)

/-- 'nameplanlaw09.DenialChain', WHERE WHAT IT READS IS OF BULK AT MOST 1048576: true; the input reads as it did. -/
def denialChainUptoRow : OpenClaim := { program := "ytmgacjioflnamaagreatdoor", sum := "85c085e4e6f56f2db5d6d370200c1f258ea619e7d6a4cf473cb2733d048bc1b0", func := "nameplan/nameplanlaw09.DenialChain", spec := "denialChain", inPlace := ["internal/bytealg.abigen_runtime_cmpstring", "internal/abi.NoEscape", "internal/bytealg.MakeNoZero", "internal/bytealg.IndexByteString"], unfollowed := true, recurses := true, named := ["nameplan/record.rules"], plainKeys := false, apart := false, laid := [("nameplan/record.rules", laid_nameplan_record_rules)], narrowed := true }
def DenialChainUptoSaid : Prop := denialChainUptoRow.holds Tryz.pinned (OpenSpec.upto denialChainSpec)

/-- 'nameplanlaw09.DenialTwice', WHERE WHAT IT READS IS OF BULK AT MOST 1048576: true; the input reads as it did. -/
def denialTwiceUptoRow : OpenClaim := { program := "ytmgacjioflnamaagreatdoor", sum := "85c085e4e6f56f2db5d6d370200c1f258ea619e7d6a4cf473cb2733d048bc1b0", func := "nameplan/nameplanlaw09.DenialTwice", spec := "denialTwice", inPlace := ["internal/bytealg.abigen_runtime_cmpstring", "internal/abi.NoEscape", "internal/bytealg.MakeNoZero", "internal/bytealg.IndexByteString"], unfollowed := true, recurses := true, named := ["nameplan/record.rules"], plainKeys := false, apart := false, laid := [("nameplan/record.rules", laid_nameplan_record_rules)], narrowed := true }
def DenialTwiceUptoSaid : Prop := denialTwiceUptoRow.holds Tryz.pinned (OpenSpec.upto denialTwiceSpec)

/-- 'nameplanlaw09.DenialOne', WHERE WHAT IT READS IS OF BULK AT MOST 1048576: true; the input reads as it did. -/
def denialOneUptoRow : OpenClaim := { program := "ytmgacjioflnamaagreatdoor", sum := "85c085e4e6f56f2db5d6d370200c1f258ea619e7d6a4cf473cb2733d048bc1b0", func := "nameplan/nameplanlaw09.DenialOne", spec := "denialOne", inPlace := ["internal/bytealg.abigen_runtime_cmpstring", "internal/abi.NoEscape", "internal/bytealg.MakeNoZero", "internal/bytealg.IndexByteString"], unfollowed := true, recurses := true, named := ["nameplan/record.rules"], plainKeys := false, apart := false, laid := [("nameplan/record.rules", laid_nameplan_record_rules)], narrowed := true }
def DenialOneUptoSaid : Prop := denialOneUptoRow.holds Tryz.pinned (OpenSpec.upto denialOneSpec)

/-- 'nameplanlaw07.LookupOthers', WHERE WHAT IT READS IS OF BULK AT MOST 1048576: true; the input reads as it did. -/
def lookupOthersUptoRow : OpenClaim := { program := "ytmgacjioflnamaagreatdoor", sum := "85c085e4e6f56f2db5d6d370200c1f258ea619e7d6a4cf473cb2733d048bc1b0", func := "nameplan/nameplanlaw07.LookupOthers", spec := "lookupOthers", inPlace := ["internal/bytealg.abigen_runtime_cmpstring", "internal/bytealg.IndexByteString", "internal/abi.NoEscape", "internal/bytealg.MakeNoZero", "slices.overlaps[nameplan/api.Signed]"], unfollowed := true, recurses := true, named := ["nameplan/record.rules"], plainKeys := false, apart := false, laid := [("nameplan/record.rules", laid_nameplan_record_rules)], narrowed := true }
def LookupOthersUptoSaid : Prop := lookupOthersUptoRow.holds Tryz.pinned (OpenSpec.upto lookupOthersSpec)

/-- 'nameplanlaw09.DenialSound', WHERE WHAT IT READS IS OF BULK AT MOST 1048576: true; the input reads as it did. -/
def denialSoundUptoRow : OpenClaim := { program := "ytmgacjioflnamaagreatdoor", sum := "85c085e4e6f56f2db5d6d370200c1f258ea619e7d6a4cf473cb2733d048bc1b0", func := "nameplan/nameplanlaw09.DenialSound", spec := "denialSound", inPlace := ["internal/bytealg.abigen_runtime_cmpstring", "internal/abi.NoEscape", "internal/bytealg.MakeNoZero", "internal/bytealg.IndexByteString"], unfollowed := true, recurses := true, named := ["nameplan/record.rules"], plainKeys := false, apart := false, laid := [("nameplan/record.rules", laid_nameplan_record_rules)], narrowed := true }
def DenialSoundUptoSaid : Prop := denialSoundUptoRow.holds Tryz.pinned (OpenSpec.upto denialSoundSpec)

/-- 'nameplanlaw09.DenialComplete', WHERE WHAT IT READS IS OF BULK AT MOST 1048576: true; the input reads as it did. -/
def denialCompleteUptoRow : OpenClaim := { program := "ytmgacjioflnamaagreatdoor", sum := "85c085e4e6f56f2db5d6d370200c1f258ea619e7d6a4cf473cb2733d048bc1b0", func := "nameplan/nameplanlaw09.DenialComplete", spec := "denialComplete", inPlace := ["internal/bytealg.abigen_runtime_cmpstring", "internal/abi.NoEscape", "internal/bytealg.MakeNoZero", "internal/bytealg.IndexByteString"], unfollowed := true, recurses := true, named := ["nameplan/record.rules"], plainKeys := false, apart := false, laid := [("nameplan/record.rules", laid_nameplan_record_rules)], narrowed := true }
def DenialCompleteUptoSaid : Prop := denialCompleteUptoRow.holds Tryz.pinned (OpenSpec.upto denialCompleteSpec)

end Rows
end Go.Proofs.YtmgacjioflnamaaGreatDoor
