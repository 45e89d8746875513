/-
  No cell of these rows narrows 'for every input' (looked for: loops, veiled, ifaces, maps, wideKeys, modest, calm, conditions, laid).
  DERIVED. THE GIVEN ROWS OF THIS SEAT. 6 by the template 'for every input the law returns true; each argument reads behind the call as it read before'; 0 by the template 'total and deterministic' (their statements: YtijbggmofdgphaaTotals.lean).
  GIVEN WITH THE SEED: the statements are not yours to turn. If you find one false, say at which input.
  Laid BY PROGRAM, IN A SANDBOX (cutbox-rows.mjs): the forced cells as the released guide's own fill.sh prints them over the translation fb71a6dab71eea6d… (all of the seat's roots in one cut). By AI agents, Wed Nov 11 2026. No macro, syntax, notation, axiom, sorry.
-/
import Derived.Test.YtijbggmofdgphaaChecked
import GoSem.Claim
import GoSem.ClaimJoined
import GoSem.ClaimMapViews
import Derived.JoinedTies
import Derived.KernelRfl
namespace Go.Proofs.Ytijbggmofdgphaa
/- THE CELL 'sum', in the pinned program and in every row, IS THE sha256 OF THE DUMP (.gsa) THAT YtijbggmofdgphaaProg.lean LOADS. Nothing in Lean hashes anything: it is a label: what it is worth is what the hold of that sum in a sandbox is worth. -/
noncomputable def Try.pinned : Pinned := { name := "ytijbggmofdgphaa", sum := "fb71a6dab71eea6d3870bffbe829d016e45971b1011bd01fda8496f2ddcb6231", checked := Try.checked }
namespace Rows
def none {H : Type} : Left H := { results := [], args := [] }

/-- 'nameplanlaw01.NameOrder': WHATEVER THE INPUT: true; the input reads as it did. -/
def nameOrderSpec : ChangeSpec := { name := "nameOrder", fn := fun _ => fun
  | [d1, d2, d3] => { results := [.lit (.bool true)], args := [d1, d2, d3] }
  | _ => none }
def nameOrderRow : OpenClaim := { program := "ytijbggmofdgphaa", sum := "fb71a6dab71eea6d3870bffbe829d016e45971b1011bd01fda8496f2ddcb6231", func := "nameplan/nameplanlaw01.NameOrder", spec := "nameOrder", inPlace := ["internal/bytealg.IndexByteString", "internal/bytealg.abigen_runtime_cmpstring"], unfollowed := true, recurses := true, apart := false }
def NameOrderSaid : Prop := nameOrderRow.holds Try.pinned (OpenSpec.ofChange nameOrderSpec)

/-- ITS FALSE NEIGHBOUR: 'it returns false'. Refute it at one input. -/
def nameOrderWrong : ChangeSpec := { name := "nameOrder", fn := fun _ => fun
  | [d1, d2, d3] => { results := [.lit (.bool false)], args := [d1, d2, d3] }
  | _ => none }
def NameOrderWrongFalsely : Prop := nameOrderRow.holds Try.pinned (OpenSpec.ofChange nameOrderWrong)

/-- 'nameplanlaw01.NameTree': WHATEVER THE INPUT: true; the input reads as it did. -/
def nameTreeSpec : ChangeSpec := { name := "nameTree", fn := fun _ => fun
  | [d1, d2, d3] => { results := [.lit (.bool true)], args := [d1, d2, d3] }
  | _ => none }
def nameTreeRow : OpenClaim := { program := "ytijbggmofdgphaa", sum := "fb71a6dab71eea6d3870bffbe829d016e45971b1011bd01fda8496f2ddcb6231", func := "nameplan/nameplanlaw01.NameTree", spec := "nameTree", inPlace := ["internal/bytealg.IndexByteString", "internal/bytealg.abigen_runtime_cmpstring"], unfollowed := true, recurses := true, apart := false }
def NameTreeSaid : Prop := nameTreeRow.holds Try.pinned (OpenSpec.ofChange nameTreeSpec)

/-- ITS FALSE NEIGHBOUR: 'it returns false'. Refute it at one input. -/
def nameTreeWrong : ChangeSpec := { name := "nameTree", fn := fun _ => fun
  | [d1, d2, d3] => { results := [.lit (.bool false)], args := [d1, d2, d3] }
  | _ => none }
def NameTreeWrongFalsely : Prop := nameTreeRow.holds Try.pinned (OpenSpec.ofChange nameTreeWrong)

/-- 'nameplanlaw01.NameStretches': WHATEVER THE INPUT: true; the input reads as it did. -/
def nameStretchesSpec : ChangeSpec := { name := "nameStretches", fn := fun _ => fun
  | [d1, d2, d3, d4] => { results := [.lit (.bool true)], args := [d1, d2, d3, d4] }
  | _ => none }
def nameStretchesRow : OpenClaim := { program := "ytijbggmofdgphaa", sum := "fb71a6dab71eea6d3870bffbe829d016e45971b1011bd01fda8496f2ddcb6231", func := "nameplan/nameplanlaw01.NameStretches", spec := "nameStretches", inPlace := ["internal/bytealg.IndexByteString", "internal/bytealg.abigen_runtime_cmpstring"], unfollowed := true, recurses := true, apart := false }
def NameStretchesSaid : Prop := nameStretchesRow.holds Try.pinned (OpenSpec.ofChange nameStretchesSpec)

/-- ITS FALSE NEIGHBOUR: 'it returns false'. Refute it at one input. -/
def nameStretchesWrong : ChangeSpec := { name := "nameStretches", fn := fun _ => fun
  | [d1, d2, d3, d4] => { results := [.lit (.bool false)], args := [d1, d2, d3, d4] }
  | _ => none }
def NameStretchesWrongFalsely : Prop := nameStretchesRow.holds Try.pinned (OpenSpec.ofChange nameStretchesWrong)

/-- 'nameplanlaw01.NameCommon': WHATEVER THE INPUT: true; the input reads as it did. -/
def nameCommonSpec : ChangeSpec := { name := "nameCommon", fn := fun _ => fun
  | [d1, d2, d3] => { results := [.lit (.bool true)], args := [d1, d2, d3] }
  | _ => none }
def nameCommonRow : OpenClaim := { program := "ytijbggmofdgphaa", sum := "fb71a6dab71eea6d3870bffbe829d016e45971b1011bd01fda8496f2ddcb6231", func := "nameplan/nameplanlaw01.NameCommon", spec := "nameCommon", inPlace := ["internal/bytealg.IndexByteString", "internal/bytealg.abigen_runtime_cmpstring"], unfollowed := true, recurses := true, apart := false }
def NameCommonSaid : Prop := nameCommonRow.holds Try.pinned (OpenSpec.ofChange nameCommonSpec)

/-- ITS FALSE NEIGHBOUR: 'it returns false'. Refute it at one input. -/
def nameCommonWrong : ChangeSpec := { name := "nameCommon", fn := fun _ => fun
  | [d1, d2, d3] => { results := [.lit (.bool false)], args := [d1, d2, d3] }
  | _ => none }
def NameCommonWrongFalsely : Prop := nameCommonRow.holds Try.pinned (OpenSpec.ofChange nameCommonWrong)

/-- 'nameplanlaw01.NameLabels': WHATEVER THE INPUT: true; the input reads as it did. -/
def nameLabelsSpec : ChangeSpec := { name := "nameLabels", fn := fun _ => fun
  | [d1, d2] => { results := [.lit (.bool true)], args := [d1, d2] }
  | _ => none }
def nameLabelsRow : OpenClaim := { program := "ytijbggmofdgphaa", sum := "fb71a6dab71eea6d3870bffbe829d016e45971b1011bd01fda8496f2ddcb6231", func := "nameplan/nameplanlaw01.NameLabels", spec := "nameLabels", inPlace := ["internal/bytealg.IndexByteString", "internal/bytealg.abigen_runtime_cmpstring", "internal/abi.NoEscape", "internal/bytealg.MakeNoZero"], unfollowed := true, recurses := true, apart := false }
def NameLabelsSaid : Prop := nameLabelsRow.holds Try.pinned (OpenSpec.ofChange nameLabelsSpec)

/-- ITS FALSE NEIGHBOUR: 'it returns false'. Refute it at one input. -/
def nameLabelsWrong : ChangeSpec := { name := "nameLabels", fn := fun _ => fun
  | [d1, d2] => { results := [.lit (.bool false)], args := [d1, d2] }
  | _ => none }
def NameLabelsWrongFalsely : Prop := nameLabelsRow.holds Try.pinned (OpenSpec.ofChange nameLabelsWrong)

/-- 'nameplanlaw01.NameBelow': WHATEVER THE INPUT: true; the input reads as it did. -/
def nameBelowSpec : ChangeSpec := { name := "nameBelow", fn := fun _ => fun
  | [d1, d2, d3] => { results := [.lit (.bool true)], args := [d1, d2, d3] }
  | _ => none }
def nameBelowRow : OpenClaim := { program := "ytijbggmofdgphaa", sum := "fb71a6dab71eea6d3870bffbe829d016e45971b1011bd01fda8496f2ddcb6231", func := "nameplan/nameplanlaw01.NameBelow", spec := "nameBelow", inPlace := ["internal/bytealg.IndexByteString", "internal/bytealg.abigen_runtime_cmpstring", "internal/abi.NoEscape", "internal/bytealg.MakeNoZero"], unfollowed := true, recurses := true, apart := false }
def NameBelowSaid : Prop := nameBelowRow.holds Try.pinned (OpenSpec.ofChange nameBelowSpec)

/-- ITS FALSE NEIGHBOUR: 'it returns false'. Refute it at one input. -/
def nameBelowWrong : ChangeSpec := { name := "nameBelow", fn := fun _ => fun
  | [d1, d2, d3] => { results := [.lit (.bool false)], args := [d1, d2, d3] }
  | _ => none }
def NameBelowWrongFalsely : Prop := nameBelowRow.holds Try.pinned (OpenSpec.ofChange nameBelowWrong)

/- THE SECOND FORM. 'bulk': how many values and letters a reading holds, each counted each time it is reached (what is shared counts as often as it is met; a slice's spare places count too). A statement '..UptoSaid' is the law's where the arguments, and the package variables that the reading takes, are together of bulk at most 1048576: NARROWER than '..Said'. Prove '..Said' where nothing that the law and all that it calls make is longer than what came in: it says more and counts as full. Else prove '..UptoSaid'. A law counts once. -/
mutual
def uptoBulk {H : Type} : DataW H → Nat
  | .lit (.string bytes) => bytes.length + 1
  | .lit _ => 1
  | .nil => 1
  | .ptr d => uptoBulk d + 1
  | .slice elems spare => uptoBulkAll elems + uptoBulkAll spare + 1
  | .agg parts => uptoBulkAll parts + 1
  | .iface _ d => uptoBulk d + 1
  | .map entries => uptoBulkEntries entries + 1
  | .held _ => 1
def uptoBulkAll {H : Type} : List (DataW H) → Nat
  | [] => 0
  | d :: r => uptoBulk d + uptoBulkAll r
def uptoBulkEntries {H : Type} : List (Lit × DataW H) → Nat
  | [] => 0
  | x :: r => uptoBulkEntry x + uptoBulkEntries r
def uptoBulkEntry {H : Type} : Lit × DataW H → Nat
  | (.string bytes, d) => bytes.length + uptoBulk d + 1
  | (_, d) => uptoBulk d + 1
 end
def uptoSmall : (H : Type) → List (DataW H) → Bool := fun _ ds => decide (uptoBulkAll ds ≤ 1048576)
def OpenSpec.upto (s : _root_.Go.ChangeSpec) : _root_.Go.OpenSpec := { _root_.Go.OpenSpec.ofChange s with cond := some uptoSmall }

/-- 'nameplanlaw01.NameOrder', WHERE WHAT IT READS IS OF BULK AT MOST 1048576: true; the input reads as it did. -/
def nameOrderUptoRow : OpenClaim := { program := "ytijbggmofdgphaa", sum := "fb71a6dab71eea6d3870bffbe829d016e45971b1011bd01fda8496f2ddcb6231", func := "nameplan/nameplanlaw01.NameOrder", spec := "nameOrder", inPlace := ["internal/bytealg.IndexByteString", "internal/bytealg.abigen_runtime_cmpstring"], unfollowed := true, recurses := true, apart := false, narrowed := true }
def NameOrderUptoSaid : Prop := nameOrderUptoRow.holds Try.pinned (OpenSpec.upto nameOrderSpec)

/-- 'nameplanlaw01.NameTree', WHERE WHAT IT READS IS OF BULK AT MOST 1048576: true; the input reads as it did. -/
def nameTreeUptoRow : OpenClaim := { program := "ytijbggmofdgphaa", sum := "fb71a6dab71eea6d3870bffbe829d016e45971b1011bd01fda8496f2ddcb6231", func := "nameplan/nameplanlaw01.NameTree", spec := "nameTree", inPlace := ["internal/bytealg.IndexByteString", "internal/bytealg.abigen_runtime_cmpstring"], unfollowed := true, recurses := true, apart := false, narrowed := true }
def NameTreeUptoSaid : Prop := nameTreeUptoRow.holds Try.pinned (OpenSpec.upto nameTreeSpec)

/-- 'nameplanlaw01.NameStretches', WHERE WHAT IT READS IS OF BULK AT MOST 1048576: true; the input reads as it did. -/
def nameStretchesUptoRow : OpenClaim := { program := "ytijbggmofdgphaa", sum := "fb71a6dab71eea6d3870bffbe829d016e45971b1011bd01fda8496f2ddcb6231", func := "nameplan/nameplanlaw01.NameStretches", spec := "nameStretches", inPlace := ["internal/bytealg.IndexByteString", "internal/bytealg.abigen_runtime_cmpstring"], unfollowed := true, recurses := true, apart := false, narrowed := true }
def NameStretchesUptoSaid : Prop := nameStretchesUptoRow.holds Try.pinned (OpenSpec.upto nameStretchesSpec)

/-- 'nameplanlaw01.NameCommon', WHERE WHAT IT READS IS OF BULK AT MOST 1048576: true; the input reads as it did. -/
def nameCommonUptoRow : OpenClaim := { program := "ytijbggmofdgphaa", sum := "fb71a6dab71eea6d3870bffbe829d016e45971b1011bd01fda8496f2ddcb6231", func := "nameplan/nameplanlaw01.NameCommon", spec := "nameCommon", inPlace := ["internal/bytealg.IndexByteString", "internal/bytealg.abigen_runtime_cmpstring"], unfollowed := true, recurses := true, apart := false, narrowed := true }
def NameCommonUptoSaid : Prop := nameCommonUptoRow.holds Try.pinned (OpenSpec.upto nameCommonSpec)

/-- 'nameplanlaw01.NameLabels', WHERE WHAT IT READS IS OF BULK AT MOST 1048576: true; the input reads as it did. -/
def nameLabelsUptoRow : OpenClaim := { program := "ytijbggmofdgphaa", sum := "fb71a6dab71eea6d3870bffbe829d016e45971b1011bd01fda8496f2ddcb6231", func := "nameplan/nameplanlaw01.NameLabels", spec := "nameLabels", inPlace := ["internal/bytealg.IndexByteString", "internal/bytealg.abigen_runtime_cmpstring", "internal/abi.NoEscape", "internal/bytealg.MakeNoZero"], unfollowed := true, recurses := true, apart := false, narrowed := true }
def NameLabelsUptoSaid : Prop := nameLabelsUptoRow.holds Try.pinned (OpenSpec.upto nameLabelsSpec)

/-- 'nameplanlaw01.NameBelow', WHERE WHAT IT READS IS OF BULK AT MOST 1048576: true; the input reads as it did. -/
def nameBelowUptoRow : OpenClaim := { program := "ytijbggmofdgphaa", sum := "fb71a6dab71eea6d3870bffbe829d016e45971b1011bd01fda8496f2ddcb6231", func := "nameplan/nameplanlaw01.NameBelow", spec := "nameBelow", inPlace := ["internal/bytealg.IndexByteString", "internal/bytealg.abigen_runtime_cmpstring", "internal/abi.NoEscape", "internal/bytealg.MakeNoZero"], unfollowed := true, recurses := true, apart := false, narrowed := true }
def NameBelowUptoSaid : Prop := nameBelowUptoRow.holds Try.pinned (OpenSpec.upto nameBelowSpec)

end Rows
end Go.Proofs.Ytijbggmofdgphaa
